-- Out of a doctored print of this seat's translation, by a program (wip/gr/run.sh, doctor.py, post.py). Lean checks it.
import Derived.Test.YtegikndkokemjaaDoorPAllx0
import Derived.Test.YtegikndkokemjaaDoorPAllx2
namespace Go.Proofs.YtegikndkokemjaaDoor.PAll
open Go.RowKit Go.Proofs.YtegikndkokemjaaDoorW.PrintWords Go.Proofs.YtegikndkokemjaaDoorW.PrintLast Go.Proofs.YtegikndkokemjaaDoorW.PrintMore
attribute [local go_sem] max2_int min2_int max_two min_two max_three min_three max_four min_four   -- for this text's walks alone
set_option linter.unusedVariables false
set_option linter.unusedSimpArgs false

/-! ### postroadref05_line: function 26 -/
mutual
def postroadref05_line.j0 : Nat → List ByteArray → Bool → Int → List (S50) → Int → Bool → Option (Int × (List (S50)) × Int × Bool × Bool)
  | 0, _, _, _, _, _, _ => none
  | k + 1, x6, x22, x116000, x116001, x116002, x116003 => if x22 = true then (some (x116000, x116001, x116002, x116003, true)) else (if 0 < (x6.length : Int) then (if (rdOf ByteArray.empty x6 0).toList = ([112] : List UInt8) then (if (x6.length : Int) = 4 then (if 1 < (x6.length : Int) then (if (rdOf ByteArray.empty x6 1).toList = ([115, 112] : List UInt8) then (postroadref05_line.j1 k x6 (!x116003) x116000 x116001 x116002 x116003) else (postroadref05_line.j1 k x6 false x116000 x116001 x116002 x116003)) else (none)) else (postroadref05_line.j1 k x6 false x116000 x116001 x116002 x116003)) else (postroadref05_line.j1 k x6 false x116000 x116001 x116002 x116003)) else (none))
def postroadref05_line.j1 : Nat → List ByteArray → Bool → Int → List (S50) → Int → Bool → Option (Int × (List (S50)) × Int × Bool × Bool)
  | 0, _, _, _, _, _, _ => none
  | k + 1, x6, x43, x116000, x116001, x116002, x116003 => if x43 = true then (if 2 < (x6.length : Int) then ((postroadref05_Number.f k (rdOf ByteArray.empty x6 2) 16777216).bind fun t124 => (if 3 < (x6.length : Int) then ((postroadref05_Number.f k (rdOf ByteArray.empty x6 3) 67108864).bind fun t126 => (if t124 ≥ 0 then (some (t124, x116001, t126, true, decide (t126 ≥ 0))) else (some (t124, x116001, t126, true, false)))) else (none))) else (none)) else (if 0 < (x6.length : Int) then (if (rdOf ByteArray.empty x6 0).toList = ([97] : List UInt8) then (if (x6.length : Int) = 4 then (if x116003 = true then (postroadref05_line.j2 k x6 (decide ((x116001.length : Int) < x116002)) x116000 x116001 x116002 x116003) else (postroadref05_line.j2 k x6 false x116000 x116001 x116002 x116003)) else (postroadref05_line.j2 k x6 false x116000 x116001 x116002 x116003)) else (postroadref05_line.j2 k x6 false x116000 x116001 x116002 x116003)) else (none))
def postroadref05_line.j2 : Nat → List ByteArray → Bool → Int → List (S50) → Int → Bool → Option (Int × (List (S50)) × Int × Bool × Bool)
  | 0, _, _, _, _, _, _ => none
  | k + 1, x6, x86, x116000, x116001, x116002, x116003 => if x86 = true then (if 1 < (x6.length : Int) then ((postroadref05_Number.f k (rdOf ByteArray.empty x6 1) x116000).bind fun t129 => (if 2 < (x6.length : Int) then ((postroadref05_Number.f k (rdOf ByteArray.empty x6 2) x116000).bind fun t131 => (if 3 < (x6.length : Int) then ((postroadref05_Number.f k (rdOf ByteArray.empty x6 3) 2147483648).bind fun t133 => (if x116001.length < 5864062014805 then ((some (x116001 ++ [(⟨wrap64 (t129 - 1), wrap64 (t131 - 1), t133⟩ : S50)] : List (S50))).bind fun y134 => (if t129 ≥ 1 then (if t131 ≥ 1 then (some (x116000, y134, x116002, x116003, decide (t133 ≥ 0))) else (some (x116000, y134, x116002, x116003, false))) else (some (x116000, y134, x116002, x116003, false)))) else (none))) else (none))) else (none))) else (none)) else (some (x116000, x116001, x116002, x116003, false))
end
def postroadref05_line.f (k : Nat) (a0_0 : Int) (l0_1 : List (S50)) (a0_2 : Int) (a0_3 : Bool) (a1 : ByteArray) : Option (Int × (List (S50)) × Int × Bool × Bool) := (postroadref05_words.f k a1).bind fun t117 => (if (t117.length : Int) = 0 then (postroadref05_line.j0 k t117 true a0_0 l0_1 a0_2 a0_3) else (if 0 < (t117.length : Int) then (postroadref05_line.j0 k t117 ((rdOf ByteArray.empty t117 0).toList == ([99] : List UInt8)) a0_0 l0_1 a0_2 a0_3) else (none)))
theorem postroadref05_line.mono_l : ∀ k, (∀ y0 y1 y2 y3 y4 y5, LeO (postroadref05_line.j0 k y0 y1 y2 y3 y4 y5) (postroadref05_line.j0 (k + 1) y0 y1 y2 y3 y4 y5)) ∧ (∀ y0 y1 y2 y3 y4 y5, LeO (postroadref05_line.j1 k y0 y1 y2 y3 y4 y5) (postroadref05_line.j1 (k + 1) y0 y1 y2 y3 y4 y5)) ∧ (∀ y0 y1 y2 y3 y4 y5, LeO (postroadref05_line.j2 k y0 y1 y2 y3 y4 y5) (postroadref05_line.j2 (k + 1) y0 y1 y2 y3 y4 y5))
  | 0 => ⟨fun _ _ _ _ _ _ r h => by simp [postroadref05_line.j0] at h, fun _ _ _ _ _ _ r h => by simp [postroadref05_line.j1] at h, fun _ _ _ _ _ _ r h => by simp [postroadref05_line.j2] at h⟩
  | k + 1 => by
    obtain ⟨ih0, ih1, ih2⟩ := postroadref05_line.mono_l k
    refine ⟨?_, ?_, ?_⟩
    · intro y0 y1 y2 y3 y4 y5
      unfold postroadref05_line.j0
      repeat' first
      | (with_reducible exact ih0 _ _ _ _ _ _)
      | (with_reducible exact ih1 _ _ _ _ _ _)
      | (with_reducible exact ih2 _ _ _ _ _ _)
      | (with_reducible exact postroadref05_Number.mono _ _ _)
      | (with_reducible exact postroadref05_words.mono _ _)
      | (with_reducible exact LeO.refl _)
      | (with_reducible exact LeO.none _)
      | (with_reducible refine LeO.ite ?_ ?_)
      | (with_reducible refine LeO.bind ?_ (fun _ => ?_))
      | exact ih0 _ _ _ _ _ _
      | exact ih1 _ _ _ _ _ _
      | exact ih2 _ _ _ _ _ _
      | exact postroadref05_Number.mono _ _ _
      | exact postroadref05_words.mono _ _
      | exact LeO.none _
      | refine LeO.ite ?_ ?_
      | refine LeO.bind ?_ (fun _ => ?_)
    · intro y0 y1 y2 y3 y4 y5
      unfold postroadref05_line.j1
      repeat' first
      | (with_reducible exact ih0 _ _ _ _ _ _)
      | (with_reducible exact ih1 _ _ _ _ _ _)
      | (with_reducible exact ih2 _ _ _ _ _ _)
      | (with_reducible exact postroadref05_Number.mono _ _ _)
      | (with_reducible exact postroadref05_words.mono _ _)
      | (with_reducible exact LeO.refl _)
      | (with_reducible exact LeO.none _)
      | (with_reducible refine LeO.ite ?_ ?_)
      | (with_reducible refine LeO.bind ?_ (fun _ => ?_))
      | exact ih0 _ _ _ _ _ _
      | exact ih1 _ _ _ _ _ _
      | exact ih2 _ _ _ _ _ _
      | exact postroadref05_Number.mono _ _ _
      | exact postroadref05_words.mono _ _
      | exact LeO.none _
      | refine LeO.ite ?_ ?_
      | refine LeO.bind ?_ (fun _ => ?_)
    · intro y0 y1 y2 y3 y4 y5
      unfold postroadref05_line.j2
      repeat' first
      | (with_reducible exact ih0 _ _ _ _ _ _)
      | (with_reducible exact ih1 _ _ _ _ _ _)
      | (with_reducible exact ih2 _ _ _ _ _ _)
      | (with_reducible exact postroadref05_Number.mono _ _ _)
      | (with_reducible exact postroadref05_words.mono _ _)
      | (with_reducible exact LeO.refl _)
      | (with_reducible exact LeO.none _)
      | (with_reducible refine LeO.ite ?_ ?_)
      | (with_reducible refine LeO.bind ?_ (fun _ => ?_))
      | exact ih0 _ _ _ _ _ _
      | exact ih1 _ _ _ _ _ _
      | exact ih2 _ _ _ _ _ _
      | exact postroadref05_Number.mono _ _ _
      | exact postroadref05_words.mono _ _
      | exact LeO.none _
      | refine LeO.ite ?_ ?_
      | refine LeO.bind ?_ (fun _ => ?_)
theorem postroadref05_line.mono : ∀ a0 a1 a2 a3 a4 k, LeO (postroadref05_line.f k a0 a1 a2 a3 a4) (postroadref05_line.f (k + 1) a0 a1 a2 a3 a4) := by
  intro a0 a1 a2 a3 a4 k
  obtain ⟨ih0, ih1, ih2⟩ := postroadref05_line.mono_l k
  unfold postroadref05_line.f
  repeat' first
      | (with_reducible exact ih0 _ _ _ _ _ _)
      | (with_reducible exact ih1 _ _ _ _ _ _)
      | (with_reducible exact ih2 _ _ _ _ _ _)
      | (with_reducible exact postroadref05_Number.mono _ _ _)
      | (with_reducible exact postroadref05_words.mono _ _)
      | (with_reducible exact LeO.refl _)
      | (with_reducible exact LeO.none _)
      | (with_reducible refine LeO.ite ?_ ?_)
      | (with_reducible refine LeO.bind ?_ (fun _ => ?_))
      | exact ih0 _ _ _ _ _ _
      | exact ih1 _ _ _ _ _ _
      | exact ih2 _ _ _ _ _ _
      | exact postroadref05_Number.mono _ _ _
      | exact postroadref05_words.mono _ _
      | exact LeO.none _
      | refine LeO.ite ?_ ?_
      | refine LeO.bind ?_ (fun _ => ?_)
set_option maxHeartbeats 8000000 in
set_option maxRecDepth 100000 in
theorem postroadref05_line.calls (k : Nat) (a0_0 : Int) (P0_1_ : Nat → Prop) (u9000_ : Value) (l0_1 : List (S50)) (a0_2 : Int) (a0_3 : Bool) (a1 : ByteArray) (r1 : Int) (r2 : List (S50)) (r3 : Int) (r4 : Bool) (r5 : Bool) (w0 w : World) (hB : Below w0.heap.size w0 w) (ho0_1 : Kd.R k50 50 w w0.heap.size P0_1_ u9000_ l0_1) (h : postroadref05_line.f k a0_0 l0_1 a0_2 a0_3 a1 = some (r1, r2, r3, r4, r5)) :
    Calls Tryd.prog 26 #[.agg #[.int .i64 a0_0, u9000_, .int .i64 a0_2, .bool a0_3], .string a1] w fun e w' => ∃ v1_ : Value, e = .returned (.tuple #[.agg #[.int .i64 r1, v1_, .int .i64 r3, .bool r4], .bool r5]) ∧ Kd.R k50 50 w' w0.heap.size (fun k_ => (P0_1_ k_ ∨ w.heap.size ≤ k_)) v1_ r2 ∧ Below w0.heap.size w0 w' ∧ Kept w w' (fun k_ => P0_1_ k_) := by
  have hu63 := Tryd.underlying63
  have hu50 := Tryd.underlying50
  have HO0_1 := Aside0.mk (show Kd.R k50 50 w w0.heap.size (fun k_ => (P0_1_ k_ ∨ w.heap.size ≤ k_)) u9000_ l0_1 from Kd.R_mono ho0_1 (fun k_ hk => (.inl hk)))
  have HK := Aside0.mk (Kept.refl w (fun k_ => P0_1_ k_))
  have HW0 := Aside0.mk hB.size
  have HB := Aside0.mk hB
  clear hB
  have H : ((postroadref05_words.f k a1).bind fun t117 => (if (t117.length : Int) = 0 then (postroadref05_line.j0 k t117 true a0_0 l0_1 a0_2 a0_3) else (if 0 < (t117.length : Int) then (postroadref05_line.j0 k t117 ((rdOf ByteArray.empty t117 0).toList == ([99] : List UInt8)) a0_0 l0_1 a0_2 a0_3) else (none)))) = some (r1, r2, r3, r4, r5) := h
  clear h
  replace H := Option.bind_eq_some_iff.mp H
  obtain ⟨t117, A30, H⟩ := H
  replace H : (if (t117.length : Int) = 0 then (postroadref05_line.j0 k t117 true a0_0 l0_1 a0_2 a0_3) else (if 0 < (t117.length : Int) then (postroadref05_line.j0 k t117 ((rdOf ByteArray.empty t117 0).toList == ([99] : List UInt8)) a0_0 l0_1 a0_2 a0_3) else (none))) = some (r1, r2, r3, r4, r5) := H
  have A3 := Aside0.mk A30
  clear A30
  have HC4 := Aside0.mk H
  clear H
  obtain ⟨Ao5, co5, eo5⟩ := Kd.R_slice HO0_1.out
  subst eo5
  go_enter Tryd.func26, Tryd.ntmps26
  go_upto_region 2 with (first | ((with_reducible refine gate_dst (N := 2) rfl ?_); (try (refine gate_guard (by rfl) ?_; dsimp only)); refine box_event ?hg (N := 2) ?hd (cs := #[.int .i64 a0_0, .slice Ao5 l0_1.length co5, .int .i64 a0_2, .bool a0_3]) (t := 63) ?hr ?_; (case hd => rfl); (case hg => rfl); (case hr => first | (go_simp; done) | (go_simp; rfl)); intro gb115 hg w6 hbox hb; have n0_ := Aside0.mk (Kd.R_below (by (with_reducible repeat (first | apply Kd.R_alloc | apply Kd.R_drewN | apply Kd.R_drew)); exact HO0_1.out) hb); have n1_ := Aside0.mk (Kept.below (S := (fun k_ => P0_1_ k_)) (by repeat (first | (with_reducible first | exact HK.out | apply Kept.alloc | apply Kept.drewN | apply Kept.drew) | exact HK.out)) hb); have n2_ := Aside0.mk (below_step (by repeat (first | (with_reducible first | exact HB.out | apply below_alloc | apply pw_below_drewN | apply below_drew1) | exact HB.out)) hb); have n3_ := Aside0.mk (hbox); have n4_ := Aside0.mk ((by rw [hg]; exact (by first | exact HK.out.1 | exact (show Kept w _ (fun k_ => P0_1_ k_) from by repeat (first | (with_reducible first | exact HK.out | apply Kept.alloc | apply Kept.drewN | apply Kept.drew) | exact HK.out)).1) : w.heap.size ≤ gb115)); have n5_ := Aside0.mk ((by rw [hg]; exact (below_size (by repeat (first | (with_reducible first | exact HB.out | apply below_alloc | apply pw_below_drewN | apply below_drew1) | exact HB.out))) : w0.heap.size ≤ gb115)); clear HO0_1; clear HK; clear HB; have HO0_1 := n0_; have HK := n1_; have HB := n2_; have BK115 := n3_; have GW115 := n4_; have GE115 := n5_; clear n0_ n1_ n2_ n3_ n4_ n5_; clear hb hbox hg) | ((with_reducible refine gate_dst (N := 4) rfl ?_); (try (refine gate_guard (by rfl) ?_; dsimp only)); refine box_event ?hg (N := 4) ?hd (cs := #[.int .i64 0, .slice none 0 0, .int .i64 0, .bool false]) (t := 63) ?hr ?_; (case hd => rfl); (case hg => rfl); (case hr => first | (go_simp; done) | (go_simp; rfl)); intro gb116 hg w7 hbox hb; have n0_ := Aside0.mk (Kd.R_below (by (with_reducible repeat (first | apply Kd.R_alloc | apply Kd.R_drewN | apply Kd.R_drew)); exact HO0_1.out) hb); have n1_ := Aside0.mk (blk_below (g := gb115) (o := .cells #[.int .i64 a0_0, .slice Ao5 l0_1.length co5, .int .i64 a0_2, .bool a0_3] 63 (0, 0)) (by (with_reducible repeat (first | refine blk_drewN ?_ _ | refine blk_drew ?_ | refine blk_alloc ?_ _)); exact BK115.out) hb); have n2_ := Aside0.mk (Kept.below (S := (fun k_ => P0_1_ k_)) (by repeat (first | (with_reducible first | exact HK.out | apply Kept.alloc | apply Kept.drewN | apply Kept.drew | refine Kept.setCell ?_ (.inr GW115.out) _) | exact HK.out)) hb); have n3_ := Aside0.mk (below_step (by repeat (first | (with_reducible first | exact HB.out | apply below_alloc | apply pw_below_drewN | apply below_drew1 | refine below_set ?_ GE115.out) | exact HB.out)) hb); have n4_ := Aside0.mk (hbox); have n5_ := Aside0.mk ((by rw [hg]; exact (by first | exact HK.out.1 | exact (show Kept w _ (fun k_ => P0_1_ k_) from by repeat (first | (with_reducible first | exact HK.out | apply Kept.alloc | apply Kept.drewN | apply Kept.drew | refine Kept.setCell ?_ (.inr GW115.out) _) | exact HK.out)).1) : w.heap.size ≤ gb116)); have n6_ := Aside0.mk ((by rw [hg]; exact (below_size (by repeat (first | (with_reducible first | exact HB.out | apply below_alloc | apply pw_below_drewN | apply below_drew1 | refine below_set ?_ GE115.out) | exact HB.out))) : w0.heap.size ≤ gb116)); have n7_ := Aside0.mk ((by rw [hg]; exact Nat.ne_of_lt (blk_lt (g := gb115) (o := .cells #[.int .i64 a0_0, .slice Ao5 l0_1.length co5, .int .i64 a0_2, .bool a0_3] 63 (0, 0)) (by (with_reducible repeat (first | refine blk_drewN ?_ _ | refine blk_drew ?_ | refine blk_alloc ?_ _)); exact BK115.out)) : gb115 ≠ gb116)); have n8_ := Aside0.mk ((by rw [hg]; exact Nat.ne_of_gt (blk_lt (g := gb115) (o := .cells #[.int .i64 a0_0, .slice Ao5 l0_1.length co5, .int .i64 a0_2, .bool a0_3] 63 (0, 0)) (by (with_reducible repeat (first | refine blk_drewN ?_ _ | refine blk_drew ?_ | refine blk_alloc ?_ _)); exact BK115.out)) : gb116 ≠ gb115)); clear HO0_1; clear BK115; clear HK; clear HB; have HO0_1 := n0_; have BK115 := n1_; have HK := n2_; have HB := n3_; have BK116 := n4_; have GW116 := n5_; have GE116 := n6_; have NB115_116 := n7_; have NB116_115 := n8_; clear n0_ n1_ n2_ n3_ n4_ n5_ n6_ n7_ n8_; clear hb hbox hg) | (go_at_call 37; (with_reducible refine (postroadref05_words.calls k a1 t117 _ A3.out).mono ?_); rintro e w8 ⟨v118, rfl, ho0, hb⟩; have n0_ := Aside0.mk (Kd.R_below (by (with_reducible repeat (first | apply Kd.R_alloc | apply Kd.R_drewN | apply Kd.R_drew)); exact HO0_1.out) hb); have n1_ := Aside0.mk (Kd.R_lower (Kd.R_newM (M := fun k_ => (P0_1_ k_ ∨ w.heap.size ≤ k_)) ho0 (by first | exact HK.out.1 | exact (show Kept w _ (fun k_ => P0_1_ k_) from by repeat (first | (with_reducible first | exact HK.out | apply Kept.alloc | apply Kept.drewN | apply Kept.drew | refine Kept.setCell ?_ (.inr GW115.out) _ | refine Kept.setCell ?_ (.inr GW116.out) _) | exact HK.out)).1) (fun k_ h_ => .inr h_)) (below_size (by repeat (first | (with_reducible first | exact HB.out | apply below_alloc | apply pw_below_drewN | apply below_drew1 | refine below_set ?_ GE115.out | refine below_set ?_ GE116.out) | exact HB.out)))); have n2_ := Aside0.mk (blk_below (g := gb115) (o := .cells #[.int .i64 a0_0, .slice Ao5 l0_1.length co5, .int .i64 a0_2, .bool a0_3] 63 (0, 0)) (by (with_reducible repeat (first | refine blk_drewN ?_ _ | refine blk_drew ?_ | refine blk_alloc ?_ _)); exact BK115.out) hb); have n3_ := Aside0.mk (blk_below (g := gb116) (o := .cells #[.int .i64 0, .slice none 0 0, .int .i64 0, .bool false] 63 (0, 0)) (by (with_reducible repeat (first | refine blk_drewN ?_ _ | refine blk_drew ?_ | refine blk_alloc ?_ _)); exact BK116.out) hb); have n4_ := Aside0.mk (Kept.below (S := (fun k_ => P0_1_ k_)) (by repeat (first | (with_reducible first | exact HK.out | apply Kept.alloc | apply Kept.drewN | apply Kept.drew | refine Kept.setCell ?_ (.inr GW115.out) _ | refine Kept.setCell ?_ (.inr GW116.out) _) | exact HK.out)) hb); have n5_ := Aside0.mk (below_step (by repeat (first | (with_reducible first | exact HB.out | apply below_alloc | apply pw_below_drewN | apply below_drew1 | refine below_set ?_ GE115.out | refine below_set ?_ GE116.out) | exact HB.out)) hb); clear HO0_1; clear BK115; clear BK116; clear HK; clear HB; have HO0_1 := n0_; have HO119 := n1_; have BK115 := n2_; have BK116 := n3_; have HK := n4_; have HB := n5_; clear n0_ n1_ n2_ n3_ n4_ n5_; (try clear hb); (try clear hb2); (try clear hk); (try clear hi); (try clear ho0)))
  repeat (go_quiet (first | ((with_reducible refine gate_dst (N := 2) rfl ?_); (try (refine gate_guard (by rfl) ?_; dsimp only)); refine box_event ?hg (N := 2) ?hd (cs := #[.int .i64 a0_0, .slice Ao5 l0_1.length co5, .int .i64 a0_2, .bool a0_3]) (t := 63) ?hr ?_; (case hd => rfl); (case hg => rfl); (case hr => first | (go_simp; done) | (go_simp; rfl)); intro gb115 hg w6 hbox hb; have n0_ := Aside0.mk (Kd.R_below (by (with_reducible repeat (first | apply Kd.R_alloc | apply Kd.R_drewN | apply Kd.R_drew)); exact HO0_1.out) hb); have n1_ := Aside0.mk (Kept.below (S := (fun k_ => P0_1_ k_)) (by repeat (first | (with_reducible first | exact HK.out | apply Kept.alloc | apply Kept.drewN | apply Kept.drew) | exact HK.out)) hb); have n2_ := Aside0.mk (below_step (by repeat (first | (with_reducible first | exact HB.out | apply below_alloc | apply pw_below_drewN | apply below_drew1) | exact HB.out)) hb); have n3_ := Aside0.mk (hbox); have n4_ := Aside0.mk ((by rw [hg]; exact (by first | exact HK.out.1 | exact (show Kept w _ (fun k_ => P0_1_ k_) from by repeat (first | (with_reducible first | exact HK.out | apply Kept.alloc | apply Kept.drewN | apply Kept.drew) | exact HK.out)).1) : w.heap.size ≤ gb115)); have n5_ := Aside0.mk ((by rw [hg]; exact (below_size (by repeat (first | (with_reducible first | exact HB.out | apply below_alloc | apply pw_below_drewN | apply below_drew1) | exact HB.out))) : w0.heap.size ≤ gb115)); clear HO0_1; clear HK; clear HB; have HO0_1 := n0_; have HK := n1_; have HB := n2_; have BK115 := n3_; have GW115 := n4_; have GE115 := n5_; clear n0_ n1_ n2_ n3_ n4_ n5_; clear hb hbox hg) | ((with_reducible refine gate_dst (N := 4) rfl ?_); (try (refine gate_guard (by rfl) ?_; dsimp only)); refine box_event ?hg (N := 4) ?hd (cs := #[.int .i64 0, .slice none 0 0, .int .i64 0, .bool false]) (t := 63) ?hr ?_; (case hd => rfl); (case hg => rfl); (case hr => first | (go_simp; done) | (go_simp; rfl)); intro gb116 hg w7 hbox hb; have n0_ := Aside0.mk (Kd.R_below (by (with_reducible repeat (first | apply Kd.R_alloc | apply Kd.R_drewN | apply Kd.R_drew)); exact HO0_1.out) hb); have n1_ := Aside0.mk (blk_below (g := gb115) (o := .cells #[.int .i64 a0_0, .slice Ao5 l0_1.length co5, .int .i64 a0_2, .bool a0_3] 63 (0, 0)) (by (with_reducible repeat (first | refine blk_drewN ?_ _ | refine blk_drew ?_ | refine blk_alloc ?_ _)); exact BK115.out) hb); have n2_ := Aside0.mk (Kept.below (S := (fun k_ => P0_1_ k_)) (by repeat (first | (with_reducible first | exact HK.out | apply Kept.alloc | apply Kept.drewN | apply Kept.drew | refine Kept.setCell ?_ (.inr GW115.out) _) | exact HK.out)) hb); have n3_ := Aside0.mk (below_step (by repeat (first | (with_reducible first | exact HB.out | apply below_alloc | apply pw_below_drewN | apply below_drew1 | refine below_set ?_ GE115.out) | exact HB.out)) hb); have n4_ := Aside0.mk (hbox); have n5_ := Aside0.mk ((by rw [hg]; exact (by first | exact HK.out.1 | exact (show Kept w _ (fun k_ => P0_1_ k_) from by repeat (first | (with_reducible first | exact HK.out | apply Kept.alloc | apply Kept.drewN | apply Kept.drew | refine Kept.setCell ?_ (.inr GW115.out) _) | exact HK.out)).1) : w.heap.size ≤ gb116)); have n6_ := Aside0.mk ((by rw [hg]; exact (below_size (by repeat (first | (with_reducible first | exact HB.out | apply below_alloc | apply pw_below_drewN | apply below_drew1 | refine below_set ?_ GE115.out) | exact HB.out))) : w0.heap.size ≤ gb116)); have n7_ := Aside0.mk ((by rw [hg]; exact Nat.ne_of_lt (blk_lt (g := gb115) (o := .cells #[.int .i64 a0_0, .slice Ao5 l0_1.length co5, .int .i64 a0_2, .bool a0_3] 63 (0, 0)) (by (with_reducible repeat (first | refine blk_drewN ?_ _ | refine blk_drew ?_ | refine blk_alloc ?_ _)); exact BK115.out)) : gb115 ≠ gb116)); have n8_ := Aside0.mk ((by rw [hg]; exact Nat.ne_of_gt (blk_lt (g := gb115) (o := .cells #[.int .i64 a0_0, .slice Ao5 l0_1.length co5, .int .i64 a0_2, .bool a0_3] 63 (0, 0)) (by (with_reducible repeat (first | refine blk_drewN ?_ _ | refine blk_drew ?_ | refine blk_alloc ?_ _)); exact BK115.out)) : gb116 ≠ gb115)); clear HO0_1; clear BK115; clear HK; clear HB; have HO0_1 := n0_; have BK115 := n1_; have HK := n2_; have HB := n3_; have BK116 := n4_; have GW116 := n5_; have GE116 := n6_; have NB115_116 := n7_; have NB116_115 := n8_; clear n0_ n1_ n2_ n3_ n4_ n5_ n6_ n7_ n8_; clear hb hbox hg) | (go_at_call 37; (with_reducible refine (postroadref05_words.calls k a1 t117 _ A3.out).mono ?_); rintro e w8 ⟨v118, rfl, ho0, hb⟩; have n0_ := Aside0.mk (Kd.R_below (by (with_reducible repeat (first | apply Kd.R_alloc | apply Kd.R_drewN | apply Kd.R_drew)); exact HO0_1.out) hb); have n1_ := Aside0.mk (Kd.R_lower (Kd.R_newM (M := fun k_ => (P0_1_ k_ ∨ w.heap.size ≤ k_)) ho0 (by first | exact HK.out.1 | exact (show Kept w _ (fun k_ => P0_1_ k_) from by repeat (first | (with_reducible first | exact HK.out | apply Kept.alloc | apply Kept.drewN | apply Kept.drew | refine Kept.setCell ?_ (.inr GW115.out) _ | refine Kept.setCell ?_ (.inr GW116.out) _) | exact HK.out)).1) (fun k_ h_ => .inr h_)) (below_size (by repeat (first | (with_reducible first | exact HB.out | apply below_alloc | apply pw_below_drewN | apply below_drew1 | refine below_set ?_ GE115.out | refine below_set ?_ GE116.out) | exact HB.out)))); have n2_ := Aside0.mk (blk_below (g := gb115) (o := .cells #[.int .i64 a0_0, .slice Ao5 l0_1.length co5, .int .i64 a0_2, .bool a0_3] 63 (0, 0)) (by (with_reducible repeat (first | refine blk_drewN ?_ _ | refine blk_drew ?_ | refine blk_alloc ?_ _)); exact BK115.out) hb); have n3_ := Aside0.mk (blk_below (g := gb116) (o := .cells #[.int .i64 0, .slice none 0 0, .int .i64 0, .bool false] 63 (0, 0)) (by (with_reducible repeat (first | refine blk_drewN ?_ _ | refine blk_drew ?_ | refine blk_alloc ?_ _)); exact BK116.out) hb); have n4_ := Aside0.mk (Kept.below (S := (fun k_ => P0_1_ k_)) (by repeat (first | (with_reducible first | exact HK.out | apply Kept.alloc | apply Kept.drewN | apply Kept.drew | refine Kept.setCell ?_ (.inr GW115.out) _ | refine Kept.setCell ?_ (.inr GW116.out) _) | exact HK.out)) hb); have n5_ := Aside0.mk (below_step (by repeat (first | (with_reducible first | exact HB.out | apply below_alloc | apply pw_below_drewN | apply below_drew1 | refine below_set ?_ GE115.out | refine below_set ?_ GE116.out) | exact HB.out)) hb); clear HO0_1; clear BK115; clear BK116; clear HK; clear HB; have HO0_1 := n0_; have HO119 := n1_; have BK115 := n2_; have BK116 := n3_; have HK := n4_; have HB := n5_; clear n0_ n1_ n2_ n3_ n4_ n5_; (try clear hb); (try clear hb2); (try clear hk); (try clear hi); (try clear ho0))); go_upto_region 2 with (first | ((with_reducible refine gate_dst (N := 2) rfl ?_); (try (refine gate_guard (by rfl) ?_; dsimp only)); refine box_event ?hg (N := 2) ?hd (cs := #[.int .i64 a0_0, .slice Ao5 l0_1.length co5, .int .i64 a0_2, .bool a0_3]) (t := 63) ?hr ?_; (case hd => rfl); (case hg => rfl); (case hr => first | (go_simp; done) | (go_simp; rfl)); intro gb115 hg w6 hbox hb; have n0_ := Aside0.mk (Kd.R_below (by (with_reducible repeat (first | apply Kd.R_alloc | apply Kd.R_drewN | apply Kd.R_drew)); exact HO0_1.out) hb); have n1_ := Aside0.mk (Kept.below (S := (fun k_ => P0_1_ k_)) (by repeat (first | (with_reducible first | exact HK.out | apply Kept.alloc | apply Kept.drewN | apply Kept.drew) | exact HK.out)) hb); have n2_ := Aside0.mk (below_step (by repeat (first | (with_reducible first | exact HB.out | apply below_alloc | apply pw_below_drewN | apply below_drew1) | exact HB.out)) hb); have n3_ := Aside0.mk (hbox); have n4_ := Aside0.mk ((by rw [hg]; exact (by first | exact HK.out.1 | exact (show Kept w _ (fun k_ => P0_1_ k_) from by repeat (first | (with_reducible first | exact HK.out | apply Kept.alloc | apply Kept.drewN | apply Kept.drew) | exact HK.out)).1) : w.heap.size ≤ gb115)); have n5_ := Aside0.mk ((by rw [hg]; exact (below_size (by repeat (first | (with_reducible first | exact HB.out | apply below_alloc | apply pw_below_drewN | apply below_drew1) | exact HB.out))) : w0.heap.size ≤ gb115)); clear HO0_1; clear HK; clear HB; have HO0_1 := n0_; have HK := n1_; have HB := n2_; have BK115 := n3_; have GW115 := n4_; have GE115 := n5_; clear n0_ n1_ n2_ n3_ n4_ n5_; clear hb hbox hg) | ((with_reducible refine gate_dst (N := 4) rfl ?_); (try (refine gate_guard (by rfl) ?_; dsimp only)); refine box_event ?hg (N := 4) ?hd (cs := #[.int .i64 0, .slice none 0 0, .int .i64 0, .bool false]) (t := 63) ?hr ?_; (case hd => rfl); (case hg => rfl); (case hr => first | (go_simp; done) | (go_simp; rfl)); intro gb116 hg w7 hbox hb; have n0_ := Aside0.mk (Kd.R_below (by (with_reducible repeat (first | apply Kd.R_alloc | apply Kd.R_drewN | apply Kd.R_drew)); exact HO0_1.out) hb); have n1_ := Aside0.mk (blk_below (g := gb115) (o := .cells #[.int .i64 a0_0, .slice Ao5 l0_1.length co5, .int .i64 a0_2, .bool a0_3] 63 (0, 0)) (by (with_reducible repeat (first | refine blk_drewN ?_ _ | refine blk_drew ?_ | refine blk_alloc ?_ _)); exact BK115.out) hb); have n2_ := Aside0.mk (Kept.below (S := (fun k_ => P0_1_ k_)) (by repeat (first | (with_reducible first | exact HK.out | apply Kept.alloc | apply Kept.drewN | apply Kept.drew | refine Kept.setCell ?_ (.inr GW115.out) _) | exact HK.out)) hb); have n3_ := Aside0.mk (below_step (by repeat (first | (with_reducible first | exact HB.out | apply below_alloc | apply pw_below_drewN | apply below_drew1 | refine below_set ?_ GE115.out) | exact HB.out)) hb); have n4_ := Aside0.mk (hbox); have n5_ := Aside0.mk ((by rw [hg]; exact (by first | exact HK.out.1 | exact (show Kept w _ (fun k_ => P0_1_ k_) from by repeat (first | (with_reducible first | exact HK.out | apply Kept.alloc | apply Kept.drewN | apply Kept.drew | refine Kept.setCell ?_ (.inr GW115.out) _) | exact HK.out)).1) : w.heap.size ≤ gb116)); have n6_ := Aside0.mk ((by rw [hg]; exact (below_size (by repeat (first | (with_reducible first | exact HB.out | apply below_alloc | apply pw_below_drewN | apply below_drew1 | refine below_set ?_ GE115.out) | exact HB.out))) : w0.heap.size ≤ gb116)); have n7_ := Aside0.mk ((by rw [hg]; exact Nat.ne_of_lt (blk_lt (g := gb115) (o := .cells #[.int .i64 a0_0, .slice Ao5 l0_1.length co5, .int .i64 a0_2, .bool a0_3] 63 (0, 0)) (by (with_reducible repeat (first | refine blk_drewN ?_ _ | refine blk_drew ?_ | refine blk_alloc ?_ _)); exact BK115.out)) : gb115 ≠ gb116)); have n8_ := Aside0.mk ((by rw [hg]; exact Nat.ne_of_gt (blk_lt (g := gb115) (o := .cells #[.int .i64 a0_0, .slice Ao5 l0_1.length co5, .int .i64 a0_2, .bool a0_3] 63 (0, 0)) (by (with_reducible repeat (first | refine blk_drewN ?_ _ | refine blk_drew ?_ | refine blk_alloc ?_ _)); exact BK115.out)) : gb116 ≠ gb115)); clear HO0_1; clear BK115; clear HK; clear HB; have HO0_1 := n0_; have BK115 := n1_; have HK := n2_; have HB := n3_; have BK116 := n4_; have GW116 := n5_; have GE116 := n6_; have NB115_116 := n7_; have NB116_115 := n8_; clear n0_ n1_ n2_ n3_ n4_ n5_ n6_ n7_ n8_; clear hb hbox hg) | (go_at_call 37; (with_reducible refine (postroadref05_words.calls k a1 t117 _ A3.out).mono ?_); rintro e w8 ⟨v118, rfl, ho0, hb⟩; have n0_ := Aside0.mk (Kd.R_below (by (with_reducible repeat (first | apply Kd.R_alloc | apply Kd.R_drewN | apply Kd.R_drew)); exact HO0_1.out) hb); have n1_ := Aside0.mk (Kd.R_lower (Kd.R_newM (M := fun k_ => (P0_1_ k_ ∨ w.heap.size ≤ k_)) ho0 (by first | exact HK.out.1 | exact (show Kept w _ (fun k_ => P0_1_ k_) from by repeat (first | (with_reducible first | exact HK.out | apply Kept.alloc | apply Kept.drewN | apply Kept.drew | refine Kept.setCell ?_ (.inr GW115.out) _ | refine Kept.setCell ?_ (.inr GW116.out) _) | exact HK.out)).1) (fun k_ h_ => .inr h_)) (below_size (by repeat (first | (with_reducible first | exact HB.out | apply below_alloc | apply pw_below_drewN | apply below_drew1 | refine below_set ?_ GE115.out | refine below_set ?_ GE116.out) | exact HB.out)))); have n2_ := Aside0.mk (blk_below (g := gb115) (o := .cells #[.int .i64 a0_0, .slice Ao5 l0_1.length co5, .int .i64 a0_2, .bool a0_3] 63 (0, 0)) (by (with_reducible repeat (first | refine blk_drewN ?_ _ | refine blk_drew ?_ | refine blk_alloc ?_ _)); exact BK115.out) hb); have n3_ := Aside0.mk (blk_below (g := gb116) (o := .cells #[.int .i64 0, .slice none 0 0, .int .i64 0, .bool false] 63 (0, 0)) (by (with_reducible repeat (first | refine blk_drewN ?_ _ | refine blk_drew ?_ | refine blk_alloc ?_ _)); exact BK116.out) hb); have n4_ := Aside0.mk (Kept.below (S := (fun k_ => P0_1_ k_)) (by repeat (first | (with_reducible first | exact HK.out | apply Kept.alloc | apply Kept.drewN | apply Kept.drew | refine Kept.setCell ?_ (.inr GW115.out) _ | refine Kept.setCell ?_ (.inr GW116.out) _) | exact HK.out)) hb); have n5_ := Aside0.mk (below_step (by repeat (first | (with_reducible first | exact HB.out | apply below_alloc | apply pw_below_drewN | apply below_drew1 | refine below_set ?_ GE115.out | refine below_set ?_ GE116.out) | exact HB.out)) hb); clear HO0_1; clear BK115; clear BK116; clear HK; clear HB; have HO0_1 := n0_; have HO119 := n1_; have BK115 := n2_; have BK116 := n3_; have HK := n4_; have HB := n5_; clear n0_ n1_ n2_ n3_ n4_ n5_; (try clear hb); (try clear hb2); (try clear hk); (try clear hi); (try clear ho0))))
  (try simp only [Act.put, List.setIfInBounds_toArray, List.set_cons_zero, List.set_cons_succ])
  go_cut [22] (fun v22 wc => ∃ (kq : Nat) (x22_3 : Bool), v22 = .bool x22_3 ∧ Aside0 (postroadref05_line.j0 kq t117 x22_3 a0_0 l0_1 a0_2 a0_3 = some (r1, r2, r3, r4, r5)) ∧ Aside0 (kq ≤ k) ∧ Aside0 (Kd.R Kd.string 9 wc w0.heap.size (fun k_ => (P0_1_ k_ ∨ w.heap.size ≤ k_)) v118 t117) ∧ Aside0 (Kd.R k50 50 wc w0.heap.size (fun k_ => (P0_1_ k_ ∨ w.heap.size ≤ k_)) (.slice Ao5 l0_1.length co5) l0_1) ∧ Aside0 (wc.heap[gb115]? = some (.cells #[.int .i64 a0_0, (.slice Ao5 l0_1.length co5), .int .i64 a0_2, .bool a0_3] 63 (0, 0))) ∧ Aside0 (wc.heap[gb116]? = some (.cells #[.int .i64 0, (.slice none 0 0), .int .i64 0, .bool false] 63 (0, 0))) ∧ Aside0 (Kept w wc (fun k_ => P0_1_ k_)) ∧ Aside0 (Below w0.heap.size w0 wc))
  case first =>
    have H := HC4.out
    clear HC4
    by_cases c9 : (t117.length : Int) = 0
    · rw [if_pos c9] at H
      have c9b0 : ((t117.length : Int) == 0) = true := beq_iff_eq.mpr c9
      have c9b1 : ((t117.length : Int) != 0) = false := bne_eq_false_iff_eq.mpr c9
      clear c9
      (first | rw [c9b0] | (simp only [i64_w, i32_w]; rw [c9b0]) | skip)
      have H' := Aside0.mk H
      clear H
      obtain ⟨Ao10, co10, eo10⟩ := Kd.R_slice HO119.out
      subst eo10
      go_wp2
      repeat (go_quiet (fail); try go_wp2)
      go_meet
      case rel => exact ⟨_, (true), (by first | rfl | (simp; done) | (simp [*]; done)), H', ⟨by first | omega | exact Nat.le_refl _⟩, ⟨by (with_reducible repeat (first | apply Kd.R_alloc | apply Kd.R_drewN | apply Kd.R_drew)); exact Kd.R_mono HO119.out (fun _ hk => hk.1)⟩, ⟨by (with_reducible repeat (first | apply Kd.R_alloc | apply Kd.R_drewN | apply Kd.R_drew)); exact HO0_1.out⟩, ⟨by (with_reducible repeat (first | refine blk_drewN ?_ _ | refine blk_drew ?_ | refine blk_alloc ?_ _)); exact BK115.out⟩, ⟨by (with_reducible repeat (first | refine blk_drewN ?_ _ | refine blk_drew ?_ | refine blk_alloc ?_ _)); exact BK116.out⟩, ⟨by repeat (first | (with_reducible first | exact HK.out | apply Kept.alloc | apply Kept.drewN | apply Kept.drew | refine Kept.setCell ?_ (.inr GW115.out) _ | refine Kept.setCell ?_ (.inr GW116.out) _) | exact HK.out)⟩, ⟨by repeat (first | (with_reducible first | exact HB.out | apply below_alloc | apply pw_below_drewN | apply below_drew1 | refine below_set ?_ GE115.out | refine below_set ?_ GE116.out) | exact HB.out)⟩⟩
    · rw [if_neg c9] at H
      have c9b0 : ((t117.length : Int) == 0) = false := beq_eq_false_iff_ne.mpr c9
      have c9b1 : ((t117.length : Int) != 0) = true := bne_iff_ne.mpr c9
      have c9b2 : ¬ (t117 = []) := fun h_ => c9 (by rw [h_]; rfl)
      (first | rw [c9b0] | (simp only [i64_w, i32_w]; rw [c9b0]) | skip)
      by_cases c11 : 0 < (t117.length : Int)
      · rw [if_pos c11] at H
        have c11b0 : decide (0 < (t117.length : Int)) = true := decide_eq_true c11
        have c11b1 : decide (0 < t117.length) = true := decide_eq_true (by omega)
        clear c11
        have H' := Aside0.mk H
        clear H
        obtain ⟨Ao12, co12, eo12⟩ := Kd.R_slice HO119.out
        subst eo12
        have p120 : 0 ≤ (0 : Int) := (by omega)
        have q120 : 0 < (t117.length : Int) := of_decide_eq_true (by first | (with_reducible assumption) | assumption)
        obtain ⟨ad120, e120, hx120_0⟩ := Kd.at_string (Kd.R_reads' HO119.out).2.2 0 p120 q120
        cases e120
        have qi120 : (0 < t117.length) = True := eq_true (by omega)
        (try rw [show ((0 : Int)).toNat = 0 from rfl] at hx120_0)
        (try rw [Addr.add_zero'] at hx120_0)
        replace p120 := eq_true p120
        replace q120 := eq_true q120
        go_wp2
        repeat (go_quiet (fail); try go_wp2)
        go_meet
        case rel => exact ⟨_, (((rdOf ByteArray.empty t117 0).toList == ([99] : List UInt8))), (by first | rfl | (simp; done) | (simp [*]; done)), H', ⟨by first | omega | exact Nat.le_refl _⟩, ⟨by (with_reducible repeat (first | apply Kd.R_alloc | apply Kd.R_drewN | apply Kd.R_drew)); exact Kd.R_mono HO119.out (fun _ hk => hk.1)⟩, ⟨by (with_reducible repeat (first | apply Kd.R_alloc | apply Kd.R_drewN | apply Kd.R_drew)); exact HO0_1.out⟩, ⟨by (with_reducible repeat (first | refine blk_drewN ?_ _ | refine blk_drew ?_ | refine blk_alloc ?_ _)); exact BK115.out⟩, ⟨by (with_reducible repeat (first | refine blk_drewN ?_ _ | refine blk_drew ?_ | refine blk_alloc ?_ _)); exact BK116.out⟩, ⟨by repeat (first | (with_reducible first | exact HK.out | apply Kept.alloc | apply Kept.drewN | apply Kept.drew | refine Kept.setCell ?_ (.inr GW115.out) _ | refine Kept.setCell ?_ (.inr GW116.out) _) | exact HK.out)⟩, ⟨by repeat (first | (with_reducible first | exact HB.out | apply below_alloc | apply pw_below_drewN | apply below_drew1 | refine below_set ?_ GE115.out | refine below_set ?_ GE116.out) | exact HB.out)⟩⟩
      · rw [if_neg c11] at H
        exact absurd H (by simp)
  case rest =>
    clear HC4
    try clear c1
    try clear p1
    try clear q1
    try clear hx1
    try clear qi1
    try clear c2
    try clear p2
    try clear c9
    try clear c9b0
    try clear c9b1
    try clear c9b2
    try clear c11
    try clear c11b0
    try clear c11b1
    try clear p12
    try clear q12
    try clear hx12
    try clear qi12
    try clear hx120_0
    try clear p120
    try clear q120
    obtain ⟨kq, x22_3, rfl, HA, HJ3, HO_6, HO_116001, BK115, BK116, HK, HB⟩ := hcut
    cases kq with
    | zero => exact absurd HA.out (by simp [postroadref05_line.j0])
    | succ kj3 =>
      have H := HA.out
      clear HA
      simp only [postroadref05_line.j0] at H
      by_cases c13 : x22_3 = true
      · subst c13
        have H1 : (some (a0_0, l0_1, a0_2, a0_3, true)) = some (r1, r2, r3, r4, r5) := by rw [if_pos rfl] at H; exact H
        clear H
        have H := H1
        clear H1
        simp only [Option.some.injEq, Prod.mk.injEq] at H
        obtain ⟨rfl, rfl, rfl, rfl, rfl⟩ := H
        have hnb14 := NB115_116.out
        have hnc14 := NB116_115.out
        have hcz15_0 : wc.cell? ⟨gb115, 0, none⟩ = some (.int .i64 a0_0) := (blk_cell BK115.out 0).trans rfl
        have hcz15_1 : wc.cell? ⟨gb115, 1, none⟩ = some (.slice Ao5 l0_1.length co5) := (blk_cell BK115.out 1).trans rfl
        have hcz15_2 : wc.cell? ⟨gb115, 2, none⟩ = some (.int .i64 a0_2) := (blk_cell BK115.out 2).trans rfl
        have hcz15_3 : wc.cell? ⟨gb115, 3, none⟩ = some (.bool a0_3) := (blk_cell BK115.out 3).trans rfl
        have hfz15_0 := blk_frozen BK115.out 0
        have hfz15_1 := blk_frozen BK115.out 1
        have hfz15_2 := blk_frozen BK115.out 2
        have hfz15_3 := blk_frozen BK115.out 3
        have hcz16_0 : wc.cell? ⟨gb116, 0, none⟩ = some (.int .i64 0) := (blk_cell BK116.out 0).trans rfl
        have hcz16_1 : wc.cell? ⟨gb116, 1, none⟩ = some (.slice none 0 0) := (blk_cell BK116.out 1).trans rfl
        have hcz16_2 : wc.cell? ⟨gb116, 2, none⟩ = some (.int .i64 0) := (blk_cell BK116.out 2).trans rfl
        have hcz16_3 : wc.cell? ⟨gb116, 3, none⟩ = some (.bool false) := (blk_cell BK116.out 3).trans rfl
        have hfz16_0 := blk_frozen BK116.out 0
        have hfz16_1 := blk_frozen BK116.out 1
        have hfz16_2 := blk_frozen BK116.out 2
        have hfz16_3 := blk_frozen BK116.out 3
        go_wp2
        repeat (go_quiet (fail); try go_wp2)
        refine bodyPost_ret (results_ct rfl _ _ gb116 63 #[.int .i64 a0_0, .slice Ao5 l0_1.length co5, .int .i64 a0_2, .bool a0_3] (0, 0) _ rfl (by (with_reducible repeat (first | refine blk_drewN ?_ _ | refine blk_drew ?_ | refine blk_alloc ?_ _)); refine blk_put (cs := #[.int .i64 a0_0, .slice Ao5 l0_1.length co5, .int .i64 a0_2, .bool false]) ?_ 3 _ rfl; (with_reducible repeat (first | refine blk_drewN ?_ _ | refine blk_drew ?_ | refine blk_alloc ?_ _)); refine blk_put (cs := #[.int .i64 a0_0, .slice Ao5 l0_1.length co5, .int .i64 0, .bool false]) ?_ 2 _ rfl; (with_reducible repeat (first | refine blk_drewN ?_ _ | refine blk_drew ?_ | refine blk_alloc ?_ _)); refine blk_put (cs := #[.int .i64 a0_0, .slice none 0 0, .int .i64 0, .bool false]) ?_ 1 _ rfl; (with_reducible repeat (first | refine blk_drewN ?_ _ | refine blk_drew ?_ | refine blk_alloc ?_ _)); refine blk_put (cs := #[.int .i64 0, .slice none 0 0, .int .i64 0, .bool false]) ?_ 0 _ rfl; (with_reducible repeat (first | refine blk_drewN ?_ _ | refine blk_drew ?_ | refine blk_alloc ?_ _)); exact BK116.out) Tryd.underlying63 rfl (by kernel_rfl)) rfl ?_
        exact ⟨_, by first | rfl | (simp [errW_none, errW_some] <;> rfl) | (simp [*, errW_none, errW_some] <;> rfl), by (with_reducible repeat (first | apply Kd.R_alloc | apply Kd.R_drewN | apply Kd.R_drew)); exact Kd.R_mono (Kd.R_far (p := ⟨gb116, 3, none⟩) (Kd.R_far (p := ⟨gb116, 2, none⟩) (Kd.R_far (p := ⟨gb116, 1, none⟩) (Kd.R_far (p := ⟨gb116, 0, none⟩) (Kd.R_types HO_116001.out BK116.out (by decide)) (fun _ hk => hk.2) (.int .i64 a0_0)) (fun _ hk => hk.2) (.slice Ao5 l0_1.length co5)) (fun _ hk => hk.2) (.int .i64 a0_2)) (fun _ hk => hk.2) (.bool a0_3)) (fun _ hk => hk.1), by repeat (first | (with_reducible first | exact HB.out | apply below_alloc | apply pw_below_drewN | apply below_drew1 | refine below_set ?_ GE115.out | refine below_set ?_ GE116.out) | exact HB.out), by repeat (first | (with_reducible first | exact HK.out | apply Kept.alloc | apply Kept.drewN | apply Kept.drew | refine Kept.setCell ?_ (.inr GW115.out) _ | refine Kept.setCell ?_ (.inr GW116.out) _) | exact HK.out)⟩
      · replace c13 := Bool.eq_false_iff.mpr c13
        subst c13
        have H1 : (if 0 < (t117.length : Int) then (if (rdOf ByteArray.empty t117 0).toList = ([112] : List UInt8) then (if (t117.length : Int) = 4 then (if 1 < (t117.length : Int) then (if (rdOf ByteArray.empty t117 1).toList = ([115, 112] : List UInt8) then (postroadref05_line.j1 kj3 t117 (!a0_3) a0_0 l0_1 a0_2 a0_3) else (postroadref05_line.j1 kj3 t117 false a0_0 l0_1 a0_2 a0_3)) else (none)) else (postroadref05_line.j1 kj3 t117 false a0_0 l0_1 a0_2 a0_3)) else (postroadref05_line.j1 kj3 t117 false a0_0 l0_1 a0_2 a0_3)) else (none)) = some (r1, r2, r3, r4, r5) := by rw [if_neg (show ¬ (false = true) by decide)] at H; exact H
        clear H
        have H := H1
        clear H1
        have HC17 := Aside0.mk H
        clear H
        go_upto_region 4 with (fail)
        repeat (go_quiet (fail); go_upto_region 4 with (fail))
        go_cut [43] (fun v43 wc => ∃ (kq : Nat) (x43_16 : Bool), v43 = .bool x43_16 ∧ Aside0 (postroadref05_line.j1 kq t117 x43_16 a0_0 l0_1 a0_2 a0_3 = some (r1, r2, r3, r4, r5)) ∧ Aside0 (kq ≤ kj3) ∧ Aside0 (Kd.R Kd.string 9 wc w0.heap.size (fun k_ => (P0_1_ k_ ∨ w.heap.size ≤ k_)) v118 t117) ∧ Aside0 (Kd.R k50 50 wc w0.heap.size (fun k_ => (P0_1_ k_ ∨ w.heap.size ≤ k_)) (.slice Ao5 l0_1.length co5) l0_1) ∧ Aside0 (wc.heap[gb115]? = some (.cells #[.int .i64 a0_0, (.slice Ao5 l0_1.length co5), .int .i64 a0_2, .bool a0_3] 63 (0, 0))) ∧ Aside0 (wc.heap[gb116]? = some (.cells #[.int .i64 0, (.slice none 0 0), .int .i64 0, .bool false] 63 (0, 0))) ∧ Aside0 (Kept w wc (fun k_ => P0_1_ k_)) ∧ Aside0 (Below w0.heap.size w0 wc))
        case first =>
          have H := HC17.out
          clear HC17
          by_cases c18 : 0 < (t117.length : Int)
          · rw [if_pos c18] at H
            have c18b0 : decide (0 < (t117.length : Int)) = true := decide_eq_true c18
            have c18b1 : decide (0 < t117.length) = true := decide_eq_true (by omega)
            clear c18
            (first | rw [c18b0] | (simp only [i64_w, i32_w]; rw [c18b0]) | skip)
            by_cases c19 : (rdOf ByteArray.empty t117 0).toList = ([112] : List UInt8)
            · rw [if_pos c19] at H
              have c19b0 : ((rdOf ByteArray.empty t117 0).toList == ([112] : List UInt8)) = true := beq_iff_eq.mpr c19
              have c19b1 : ((rdOf ByteArray.empty t117 0).toList != ([112] : List UInt8)) = false := bne_eq_false_iff_eq.mpr c19
              clear c19
              by_cases c20 : (t117.length : Int) = 4
              · rw [if_pos c20] at H
                have c20b0 : ((t117.length : Int) == 4) = true := beq_iff_eq.mpr c20
                have c20b1 : ((t117.length : Int) != 4) = false := bne_eq_false_iff_eq.mpr c20
                clear c20
                by_cases c21 : 1 < (t117.length : Int)
                · rw [if_pos c21] at H
                  have c21b0 : decide (1 < (t117.length : Int)) = true := decide_eq_true c21
                  have c21b1 : decide (1 < t117.length) = true := decide_eq_true (by omega)
                  clear c21
                  by_cases c22 : (rdOf ByteArray.empty t117 1).toList = ([115, 112] : List UInt8)
                  · rw [if_pos c22] at H
                    have c22b0 : ((rdOf ByteArray.empty t117 1).toList == ([115, 112] : List UInt8)) = true := beq_iff_eq.mpr c22
                    have c22b1 : ((rdOf ByteArray.empty t117 1).toList != ([115, 112] : List UInt8)) = false := bne_eq_false_iff_eq.mpr c22
                    clear c22
                    have H' := Aside0.mk H
                    clear H
                    obtain ⟨Ao23, co23, eo23⟩ := Kd.R_slice HO_6.out
                    subst eo23
                    have p121 : 0 ≤ (0 : Int) := (by omega)
                    have q121 : 0 < (t117.length : Int) := of_decide_eq_true (by first | (with_reducible assumption) | assumption)
                    obtain ⟨ad121, e121, hx121_0⟩ := Kd.at_string (Kd.R_reads' HO_6.out).2.2 0 p121 q121
                    cases e121
                    have qi121 : (0 < t117.length) = True := eq_true (by omega)
                    (try rw [show ((0 : Int)).toNat = 0 from rfl] at hx121_0)
                    (try rw [Addr.add_zero'] at hx121_0)
                    replace p121 := eq_true p121
                    replace q121 := eq_true q121
                    have p122 : 0 ≤ (1 : Int) := (by omega)
                    have q122 : 1 < (t117.length : Int) := of_decide_eq_true (by first | (with_reducible assumption) | assumption)
                    obtain ⟨ad122, e122, hx122_0⟩ := Kd.at_string (Kd.R_reads' HO_6.out).2.2 1 p122 q122
                    obtain rfl : ad121 = ad122 := (by injection e122)
                    (try simp only [show (1 : Int).toNat = 1 from rfl, Nat.reduceMul, Nat.reduceEqDiff, Go.Addr.add, ↓reduceIte] at hx122_0)
                    have qi122 : (1 < t117.length) = True := eq_true (by omega)
                    (try rw [show ((1 : Int)).toNat = 1 from rfl] at hx122_0)
                    replace p122 := eq_true p122
                    replace q122 := eq_true q122
                    have hnb24 := NB115_116.out
                    have hnc24 := NB116_115.out
                    have hcz25_0 : wc.cell? ⟨gb115, 0, none⟩ = some (.int .i64 a0_0) := (blk_cell BK115.out 0).trans rfl
                    have hcz25_1 : wc.cell? ⟨gb115, 1, none⟩ = some (.slice Ao5 l0_1.length co5) := (blk_cell BK115.out 1).trans rfl
                    have hcz25_2 : wc.cell? ⟨gb115, 2, none⟩ = some (.int .i64 a0_2) := (blk_cell BK115.out 2).trans rfl
                    have hcz25_3 : wc.cell? ⟨gb115, 3, none⟩ = some (.bool a0_3) := (blk_cell BK115.out 3).trans rfl
                    have hfz25_0 := blk_frozen BK115.out 0
                    have hfz25_1 := blk_frozen BK115.out 1
                    have hfz25_2 := blk_frozen BK115.out 2
                    have hfz25_3 := blk_frozen BK115.out 3
                    go_wp2
                    repeat (go_quiet (fail); try go_wp2)
                    go_meet
                    case rel => exact ⟨_, (!a0_3), (by first | rfl | (simp; done) | (simp [*]; done)), H', ⟨by have := HJ3.out; first | omega | exact Nat.le_refl _⟩, ⟨by (with_reducible repeat (first | apply Kd.R_alloc | apply Kd.R_drewN | apply Kd.R_drew)); exact HO_6.out⟩, ⟨by (with_reducible repeat (first | apply Kd.R_alloc | apply Kd.R_drewN | apply Kd.R_drew)); exact HO_116001.out⟩, ⟨by (with_reducible repeat (first | refine blk_drewN ?_ _ | refine blk_drew ?_ | refine blk_alloc ?_ _)); exact BK115.out⟩, ⟨by (with_reducible repeat (first | refine blk_drewN ?_ _ | refine blk_drew ?_ | refine blk_alloc ?_ _)); exact BK116.out⟩, ⟨by repeat (first | (with_reducible first | exact HK.out | apply Kept.alloc | apply Kept.drewN | apply Kept.drew | refine Kept.setCell ?_ (.inr GW115.out) _ | refine Kept.setCell ?_ (.inr GW116.out) _) | exact HK.out)⟩, ⟨by repeat (first | (with_reducible first | exact HB.out | apply below_alloc | apply pw_below_drewN | apply below_drew1 | refine below_set ?_ GE115.out | refine below_set ?_ GE116.out) | exact HB.out)⟩⟩
                  · rw [if_neg c22] at H
                    have c22b0 : ((rdOf ByteArray.empty t117 1).toList == ([115, 112] : List UInt8)) = false := beq_eq_false_iff_ne.mpr c22
                    have c22b1 : ((rdOf ByteArray.empty t117 1).toList != ([115, 112] : List UInt8)) = true := bne_iff_ne.mpr c22
                    have H' := Aside0.mk H
                    clear H
                    obtain ⟨Ao26, co26, eo26⟩ := Kd.R_slice HO_6.out
                    subst eo26
                    have p121 : 0 ≤ (0 : Int) := (by omega)
                    have q121 : 0 < (t117.length : Int) := of_decide_eq_true (by first | (with_reducible assumption) | assumption)
                    obtain ⟨ad121, e121, hx121_0⟩ := Kd.at_string (Kd.R_reads' HO_6.out).2.2 0 p121 q121
                    cases e121
                    have qi121 : (0 < t117.length) = True := eq_true (by omega)
                    (try rw [show ((0 : Int)).toNat = 0 from rfl] at hx121_0)
                    (try rw [Addr.add_zero'] at hx121_0)
                    replace p121 := eq_true p121
                    replace q121 := eq_true q121
                    have p122 : 0 ≤ (1 : Int) := (by omega)
                    have q122 : 1 < (t117.length : Int) := of_decide_eq_true (by first | (with_reducible assumption) | assumption)
                    obtain ⟨ad122, e122, hx122_0⟩ := Kd.at_string (Kd.R_reads' HO_6.out).2.2 1 p122 q122
                    obtain rfl : ad121 = ad122 := (by injection e122)
                    (try simp only [show (1 : Int).toNat = 1 from rfl, Nat.reduceMul, Nat.reduceEqDiff, Go.Addr.add, ↓reduceIte] at hx122_0)
                    have qi122 : (1 < t117.length) = True := eq_true (by omega)
                    (try rw [show ((1 : Int)).toNat = 1 from rfl] at hx122_0)
                    replace p122 := eq_true p122
                    replace q122 := eq_true q122
                    go_wp2
                    repeat (go_quiet (fail); try go_wp2)
                    go_meet
                    case rel => exact ⟨_, (false), (by first | rfl | (simp; done) | (simp [*]; done)), H', ⟨by have := HJ3.out; first | omega | exact Nat.le_refl _⟩, ⟨by (with_reducible repeat (first | apply Kd.R_alloc | apply Kd.R_drewN | apply Kd.R_drew)); exact HO_6.out⟩, ⟨by (with_reducible repeat (first | apply Kd.R_alloc | apply Kd.R_drewN | apply Kd.R_drew)); exact HO_116001.out⟩, ⟨by (with_reducible repeat (first | refine blk_drewN ?_ _ | refine blk_drew ?_ | refine blk_alloc ?_ _)); exact BK115.out⟩, ⟨by (with_reducible repeat (first | refine blk_drewN ?_ _ | refine blk_drew ?_ | refine blk_alloc ?_ _)); exact BK116.out⟩, ⟨by repeat (first | (with_reducible first | exact HK.out | apply Kept.alloc | apply Kept.drewN | apply Kept.drew | refine Kept.setCell ?_ (.inr GW115.out) _ | refine Kept.setCell ?_ (.inr GW116.out) _) | exact HK.out)⟩, ⟨by repeat (first | (with_reducible first | exact HB.out | apply below_alloc | apply pw_below_drewN | apply below_drew1 | refine below_set ?_ GE115.out | refine below_set ?_ GE116.out) | exact HB.out)⟩⟩
                · rw [if_neg c21] at H
                  exact absurd H (by simp)
              · rw [if_neg c20] at H
                have c20b0 : ((t117.length : Int) == 4) = false := beq_eq_false_iff_ne.mpr c20
                have c20b1 : ((t117.length : Int) != 4) = true := bne_iff_ne.mpr c20
                have H' := Aside0.mk H
                clear H
                obtain ⟨Ao27, co27, eo27⟩ := Kd.R_slice HO_6.out
                subst eo27
                have p121 : 0 ≤ (0 : Int) := (by omega)
                have q121 : 0 < (t117.length : Int) := of_decide_eq_true (by first | (with_reducible assumption) | assumption)
                obtain ⟨ad121, e121, hx121_0⟩ := Kd.at_string (Kd.R_reads' HO_6.out).2.2 0 p121 q121
                cases e121
                have qi121 : (0 < t117.length) = True := eq_true (by omega)
                (try rw [show ((0 : Int)).toNat = 0 from rfl] at hx121_0)
                (try rw [Addr.add_zero'] at hx121_0)
                replace p121 := eq_true p121
                replace q121 := eq_true q121
                go_wp2
                repeat (go_quiet (fail); try go_wp2)
                go_meet
                case rel => exact ⟨_, (false), (by first | rfl | (simp; done) | (simp [*]; done)), H', ⟨by have := HJ3.out; first | omega | exact Nat.le_refl _⟩, ⟨by (with_reducible repeat (first | apply Kd.R_alloc | apply Kd.R_drewN | apply Kd.R_drew)); exact HO_6.out⟩, ⟨by (with_reducible repeat (first | apply Kd.R_alloc | apply Kd.R_drewN | apply Kd.R_drew)); exact HO_116001.out⟩, ⟨by (with_reducible repeat (first | refine blk_drewN ?_ _ | refine blk_drew ?_ | refine blk_alloc ?_ _)); exact BK115.out⟩, ⟨by (with_reducible repeat (first | refine blk_drewN ?_ _ | refine blk_drew ?_ | refine blk_alloc ?_ _)); exact BK116.out⟩, ⟨by repeat (first | (with_reducible first | exact HK.out | apply Kept.alloc | apply Kept.drewN | apply Kept.drew | refine Kept.setCell ?_ (.inr GW115.out) _ | refine Kept.setCell ?_ (.inr GW116.out) _) | exact HK.out)⟩, ⟨by repeat (first | (with_reducible first | exact HB.out | apply below_alloc | apply pw_below_drewN | apply below_drew1 | refine below_set ?_ GE115.out | refine below_set ?_ GE116.out) | exact HB.out)⟩⟩
            · rw [if_neg c19] at H
              have c19b0 : ((rdOf ByteArray.empty t117 0).toList == ([112] : List UInt8)) = false := beq_eq_false_iff_ne.mpr c19
              have c19b1 : ((rdOf ByteArray.empty t117 0).toList != ([112] : List UInt8)) = true := bne_iff_ne.mpr c19
              have H' := Aside0.mk H
              clear H
              obtain ⟨Ao28, co28, eo28⟩ := Kd.R_slice HO_6.out
              subst eo28
              have p121 : 0 ≤ (0 : Int) := (by omega)
              have q121 : 0 < (t117.length : Int) := of_decide_eq_true (by first | (with_reducible assumption) | assumption)
              obtain ⟨ad121, e121, hx121_0⟩ := Kd.at_string (Kd.R_reads' HO_6.out).2.2 0 p121 q121
              cases e121
              have qi121 : (0 < t117.length) = True := eq_true (by omega)
              (try rw [show ((0 : Int)).toNat = 0 from rfl] at hx121_0)
              (try rw [Addr.add_zero'] at hx121_0)
              replace p121 := eq_true p121
              replace q121 := eq_true q121
              go_wp2
              repeat (go_quiet (fail); try go_wp2)
              go_meet
              case rel => exact ⟨_, (false), (by first | rfl | (simp; done) | (simp [*]; done)), H', ⟨by have := HJ3.out; first | omega | exact Nat.le_refl _⟩, ⟨by (with_reducible repeat (first | apply Kd.R_alloc | apply Kd.R_drewN | apply Kd.R_drew)); exact HO_6.out⟩, ⟨by (with_reducible repeat (first | apply Kd.R_alloc | apply Kd.R_drewN | apply Kd.R_drew)); exact HO_116001.out⟩, ⟨by (with_reducible repeat (first | refine blk_drewN ?_ _ | refine blk_drew ?_ | refine blk_alloc ?_ _)); exact BK115.out⟩, ⟨by (with_reducible repeat (first | refine blk_drewN ?_ _ | refine blk_drew ?_ | refine blk_alloc ?_ _)); exact BK116.out⟩, ⟨by repeat (first | (with_reducible first | exact HK.out | apply Kept.alloc | apply Kept.drewN | apply Kept.drew | refine Kept.setCell ?_ (.inr GW115.out) _ | refine Kept.setCell ?_ (.inr GW116.out) _) | exact HK.out)⟩, ⟨by repeat (first | (with_reducible first | exact HB.out | apply below_alloc | apply pw_below_drewN | apply below_drew1 | refine below_set ?_ GE115.out | refine below_set ?_ GE116.out) | exact HB.out)⟩⟩
          · rw [if_neg c18] at H
            exact absurd H (by simp)
        case rest =>
          clear HC17
          try clear c1
          try clear p1
          try clear q1
          try clear hx1
          try clear qi1
          try clear c2
          try clear p2
          try clear c9
          try clear c9b0
          try clear c9b1
          try clear c9b2
          try clear c11
          try clear c11b0
          try clear c11b1
          try clear p12
          try clear q12
          try clear hx12
          try clear qi12
          try clear c13
          try clear c14
          try clear c18
          try clear c18b0
          try clear c18b1
          try clear c19
          try clear c19b0
          try clear c19b1
          try clear c20
          try clear c20b0
          try clear c20b1
          try clear c21
          try clear c21b0
          try clear c21b1
          try clear c22
          try clear c22b0
          try clear c22b1
          try clear c24
          try clear c26
          try clear hcz15_0
          try clear hcz15_1
          try clear hcz15_2
          try clear hcz15_3
          try clear hcz16_0
          try clear hcz16_1
          try clear hcz16_2
          try clear hcz16_3
          try clear hcz25_0
          try clear hcz25_1
          try clear hcz25_2
          try clear hcz25_3
          try clear hfz15_0
          try clear hfz15_1
          try clear hfz15_2
          try clear hfz15_3
          try clear hfz16_0
          try clear hfz16_1
          try clear hfz16_2
          try clear hfz16_3
          try clear hfz25_0
          try clear hfz25_1
          try clear hfz25_2
          try clear hfz25_3
          try clear hx120_0
          try clear hx121_0
          try clear hx122_0
          try clear p1
          try clear p12
          try clear p120
          try clear p121
          try clear p122
          try clear p2
          try clear q1
          try clear q12
          try clear q120
          try clear q121
          try clear q122
          obtain ⟨kq, x43_16, rfl, HA, HJ16, HO_6, HO_116001, BK115, BK116, HK, HB⟩ := hcut
          cases kq with
          | zero => exact absurd HA.out (by simp [postroadref05_line.j1])
          | succ kj16 =>
            have H := HA.out
            clear HA
            simp only [postroadref05_line.j1] at H
            by_cases c29 : x43_16 = true
            · subst c29
              have H1 : (if 2 < (t117.length : Int) then ((postroadref05_Number.f kj16 (rdOf ByteArray.empty t117 2) 16777216).bind fun t124 => (if 3 < (t117.length : Int) then ((postroadref05_Number.f kj16 (rdOf ByteArray.empty t117 3) 67108864).bind fun t126 => (if t124 ≥ 0 then (some (t124, l0_1, t126, true, decide (t126 ≥ 0))) else (some (t124, l0_1, t126, true, false)))) else (none))) else (none)) = some (r1, r2, r3, r4, r5) := by rw [if_pos rfl] at H; exact H
              clear H
              have H := H1
              clear H1
              by_cases c30 : 2 < (t117.length : Int)
              · rw [if_pos c30] at H
                have c30b0 : decide (2 < (t117.length : Int)) = true := decide_eq_true c30
                have c30b1 : decide (2 < t117.length) = true := decide_eq_true (by omega)
                clear c30
                replace H := Option.bind_eq_some_iff.mp H
                obtain ⟨t124, A310, H⟩ := H
                replace H : (if 3 < (t117.length : Int) then ((postroadref05_Number.f kj16 (rdOf ByteArray.empty t117 3) 67108864).bind fun t126 => (if t124 ≥ 0 then (some (t124, l0_1, t126, true, decide (t126 ≥ 0))) else (some (t124, l0_1, t126, true, false)))) else (none)) = some (r1, r2, r3, r4, r5) := H
                have A31 := Aside0.mk A310
                clear A310
                by_cases c32 : 3 < (t117.length : Int)
                · rw [if_pos c32] at H
                  have c32b0 : decide (3 < (t117.length : Int)) = true := decide_eq_true c32
                  have c32b1 : decide (3 < t117.length) = true := decide_eq_true (by omega)
                  clear c32
                  replace H := Option.bind_eq_some_iff.mp H
                  obtain ⟨t126, A330, H⟩ := H
                  replace H : (if t124 ≥ 0 then (some (t124, l0_1, t126, true, decide (t126 ≥ 0))) else (some (t124, l0_1, t126, true, false))) = some (r1, r2, r3, r4, r5) := H
                  have A33 := Aside0.mk A330
                  clear A330
                  by_cases c34 : t124 ≥ 0
                  · rw [if_pos c34] at H
                    have c34b0 : decide (0 ≤ t124) = true := decide_eq_true c34
                    clear c34
                    simp only [Option.some.injEq, Prod.mk.injEq] at H
                    obtain ⟨rfl, rfl, rfl, rfl, rfl⟩ := H
                    obtain ⟨Ao35, co35, eo35⟩ := Kd.R_slice HO_6.out
                    subst eo35
                    have p123 : 0 ≤ (2 : Int) := (by omega)
                    have q123 : 2 < (t117.length : Int) := of_decide_eq_true (by first | (with_reducible assumption) | assumption)
                    obtain ⟨ad123, e123, hx123_0⟩ := Kd.at_string (Kd.R_reads' HO_6.out).2.2 2 p123 q123
                    cases e123
                    (try simp only [show (2 : Int).toNat = 2 from rfl, Nat.reduceMul, Nat.reduceEqDiff, Go.Addr.add, ↓reduceIte] at hx123_0)
                    have qi123 : (2 < t117.length) = True := eq_true (by omega)
                    (try rw [show ((2 : Int)).toNat = 2 from rfl] at hx123_0)
                    replace p123 := eq_true p123
                    replace q123 := eq_true q123
                    go_wp2_with (first | (go_at_call 20; (with_reducible refine (postroadref05_Number.calls kj16 (rdOf ByteArray.empty t117 2) 16777216 t124 _ A31.out).mono ?_); rintro e w' ⟨rfl, ⟨nd, rfl⟩⟩; (try first | exact ⟨rfl, _, World.drewN_drewN _ _ _⟩ | exact ⟨rfl, _, Eq.trans (World.drewN_drewN _ _ _) (congrArg (World.drewN _) (Nat.add_assoc _ _ _))⟩); have p125 : 0 ≤ (3 : Int) := (by omega); have q125 : 3 < (t117.length : Int) := of_decide_eq_true (by first | (with_reducible assumption) | assumption); obtain ⟨ad125, e125, hx125_0⟩ := Kd.at_string (Kd.R_reads' HO_6.out).2.2 3 p125 q125; obtain rfl : ad123 = ad125 := (by injection e125); (try simp only [show (3 : Int).toNat = 3 from rfl, Nat.reduceMul, Nat.reduceEqDiff, Go.Addr.add, ↓reduceIte] at hx125_0); have qi125 : (3 < t117.length) = True := eq_true (by omega); (try rw [show ((3 : Int)).toNat = 3 from rfl] at hx125_0); replace p125 := eq_true p125; replace q125 := eq_true q125) | (go_at_call 20; (with_reducible refine (postroadref05_Number.calls kj16 (rdOf ByteArray.empty t117 3) 67108864 t126 _ A33.out).mono ?_); rintro e w' ⟨rfl, ⟨nd, rfl⟩⟩; (try first | exact ⟨rfl, _, World.drewN_drewN _ _ _⟩ | exact ⟨rfl, _, Eq.trans (World.drewN_drewN _ _ _) (congrArg (World.drewN _) (Nat.add_assoc _ _ _))⟩); have hnb36 := NB115_116.out; have hnc36 := NB116_115.out; have hcz37_0 : wc.cell? ⟨gb115, 0, none⟩ = some (.int .i64 a0_0) := (blk_cell BK115.out 0).trans rfl; have hcz37_1 : wc.cell? ⟨gb115, 1, none⟩ = some (.slice Ao5 l0_1.length co5) := (blk_cell BK115.out 1).trans rfl; have hcz37_2 : wc.cell? ⟨gb115, 2, none⟩ = some (.int .i64 a0_2) := (blk_cell BK115.out 2).trans rfl; have hcz37_3 : wc.cell? ⟨gb115, 3, none⟩ = some (.bool a0_3) := (blk_cell BK115.out 3).trans rfl; have hfz37_0 := blk_frozen BK115.out 0; have hfz37_1 := blk_frozen BK115.out 1; have hfz37_2 := blk_frozen BK115.out 2; have hfz37_3 := blk_frozen BK115.out 3; have hcz38_0 : wc.cell? ⟨gb116, 0, none⟩ = some (.int .i64 0) := (blk_cell BK116.out 0).trans rfl; have hcz38_1 : wc.cell? ⟨gb116, 1, none⟩ = some (.slice none 0 0) := (blk_cell BK116.out 1).trans rfl; have hcz38_2 : wc.cell? ⟨gb116, 2, none⟩ = some (.int .i64 0) := (blk_cell BK116.out 2).trans rfl; have hcz38_3 : wc.cell? ⟨gb116, 3, none⟩ = some (.bool false) := (blk_cell BK116.out 3).trans rfl; have hfz38_0 := blk_frozen BK116.out 0; have hfz38_1 := blk_frozen BK116.out 1; have hfz38_2 := blk_frozen BK116.out 2; have hfz38_3 := blk_frozen BK116.out 3))
                    repeat (go_quiet (first | (go_at_call 20; (with_reducible refine (postroadref05_Number.calls kj16 (rdOf ByteArray.empty t117 2) 16777216 t124 _ A31.out).mono ?_); rintro e w' ⟨rfl, ⟨nd, rfl⟩⟩; (try first | exact ⟨rfl, _, World.drewN_drewN _ _ _⟩ | exact ⟨rfl, _, Eq.trans (World.drewN_drewN _ _ _) (congrArg (World.drewN _) (Nat.add_assoc _ _ _))⟩); have p125 : 0 ≤ (3 : Int) := (by omega); have q125 : 3 < (t117.length : Int) := of_decide_eq_true (by first | (with_reducible assumption) | assumption); obtain ⟨ad125, e125, hx125_0⟩ := Kd.at_string (Kd.R_reads' HO_6.out).2.2 3 p125 q125; obtain rfl : ad123 = ad125 := (by injection e125); (try simp only [show (3 : Int).toNat = 3 from rfl, Nat.reduceMul, Nat.reduceEqDiff, Go.Addr.add, ↓reduceIte] at hx125_0); have qi125 : (3 < t117.length) = True := eq_true (by omega); (try rw [show ((3 : Int)).toNat = 3 from rfl] at hx125_0); replace p125 := eq_true p125; replace q125 := eq_true q125) | (go_at_call 20; (with_reducible refine (postroadref05_Number.calls kj16 (rdOf ByteArray.empty t117 3) 67108864 t126 _ A33.out).mono ?_); rintro e w' ⟨rfl, ⟨nd, rfl⟩⟩; (try first | exact ⟨rfl, _, World.drewN_drewN _ _ _⟩ | exact ⟨rfl, _, Eq.trans (World.drewN_drewN _ _ _) (congrArg (World.drewN _) (Nat.add_assoc _ _ _))⟩); have hnb36 := NB115_116.out; have hnc36 := NB116_115.out; have hcz37_0 : wc.cell? ⟨gb115, 0, none⟩ = some (.int .i64 a0_0) := (blk_cell BK115.out 0).trans rfl; have hcz37_1 : wc.cell? ⟨gb115, 1, none⟩ = some (.slice Ao5 l0_1.length co5) := (blk_cell BK115.out 1).trans rfl; have hcz37_2 : wc.cell? ⟨gb115, 2, none⟩ = some (.int .i64 a0_2) := (blk_cell BK115.out 2).trans rfl; have hcz37_3 : wc.cell? ⟨gb115, 3, none⟩ = some (.bool a0_3) := (blk_cell BK115.out 3).trans rfl; have hfz37_0 := blk_frozen BK115.out 0; have hfz37_1 := blk_frozen BK115.out 1; have hfz37_2 := blk_frozen BK115.out 2; have hfz37_3 := blk_frozen BK115.out 3; have hcz38_0 : wc.cell? ⟨gb116, 0, none⟩ = some (.int .i64 0) := (blk_cell BK116.out 0).trans rfl; have hcz38_1 : wc.cell? ⟨gb116, 1, none⟩ = some (.slice none 0 0) := (blk_cell BK116.out 1).trans rfl; have hcz38_2 : wc.cell? ⟨gb116, 2, none⟩ = some (.int .i64 0) := (blk_cell BK116.out 2).trans rfl; have hcz38_3 : wc.cell? ⟨gb116, 3, none⟩ = some (.bool false) := (blk_cell BK116.out 3).trans rfl; have hfz38_0 := blk_frozen BK116.out 0; have hfz38_1 := blk_frozen BK116.out 1; have hfz38_2 := blk_frozen BK116.out 2; have hfz38_3 := blk_frozen BK116.out 3)); try go_wp2_with (first | (go_at_call 20; (with_reducible refine (postroadref05_Number.calls kj16 (rdOf ByteArray.empty t117 2) 16777216 t124 _ A31.out).mono ?_); rintro e w' ⟨rfl, ⟨nd, rfl⟩⟩; (try first | exact ⟨rfl, _, World.drewN_drewN _ _ _⟩ | exact ⟨rfl, _, Eq.trans (World.drewN_drewN _ _ _) (congrArg (World.drewN _) (Nat.add_assoc _ _ _))⟩); have p125 : 0 ≤ (3 : Int) := (by omega); have q125 : 3 < (t117.length : Int) := of_decide_eq_true (by first | (with_reducible assumption) | assumption); obtain ⟨ad125, e125, hx125_0⟩ := Kd.at_string (Kd.R_reads' HO_6.out).2.2 3 p125 q125; obtain rfl : ad123 = ad125 := (by injection e125); (try simp only [show (3 : Int).toNat = 3 from rfl, Nat.reduceMul, Nat.reduceEqDiff, Go.Addr.add, ↓reduceIte] at hx125_0); have qi125 : (3 < t117.length) = True := eq_true (by omega); (try rw [show ((3 : Int)).toNat = 3 from rfl] at hx125_0); replace p125 := eq_true p125; replace q125 := eq_true q125) | (go_at_call 20; (with_reducible refine (postroadref05_Number.calls kj16 (rdOf ByteArray.empty t117 3) 67108864 t126 _ A33.out).mono ?_); rintro e w' ⟨rfl, ⟨nd, rfl⟩⟩; (try first | exact ⟨rfl, _, World.drewN_drewN _ _ _⟩ | exact ⟨rfl, _, Eq.trans (World.drewN_drewN _ _ _) (congrArg (World.drewN _) (Nat.add_assoc _ _ _))⟩); have hnb36 := NB115_116.out; have hnc36 := NB116_115.out; have hcz37_0 : wc.cell? ⟨gb115, 0, none⟩ = some (.int .i64 a0_0) := (blk_cell BK115.out 0).trans rfl; have hcz37_1 : wc.cell? ⟨gb115, 1, none⟩ = some (.slice Ao5 l0_1.length co5) := (blk_cell BK115.out 1).trans rfl; have hcz37_2 : wc.cell? ⟨gb115, 2, none⟩ = some (.int .i64 a0_2) := (blk_cell BK115.out 2).trans rfl; have hcz37_3 : wc.cell? ⟨gb115, 3, none⟩ = some (.bool a0_3) := (blk_cell BK115.out 3).trans rfl; have hfz37_0 := blk_frozen BK115.out 0; have hfz37_1 := blk_frozen BK115.out 1; have hfz37_2 := blk_frozen BK115.out 2; have hfz37_3 := blk_frozen BK115.out 3; have hcz38_0 : wc.cell? ⟨gb116, 0, none⟩ = some (.int .i64 0) := (blk_cell BK116.out 0).trans rfl; have hcz38_1 : wc.cell? ⟨gb116, 1, none⟩ = some (.slice none 0 0) := (blk_cell BK116.out 1).trans rfl; have hcz38_2 : wc.cell? ⟨gb116, 2, none⟩ = some (.int .i64 0) := (blk_cell BK116.out 2).trans rfl; have hcz38_3 : wc.cell? ⟨gb116, 3, none⟩ = some (.bool false) := (blk_cell BK116.out 3).trans rfl; have hfz38_0 := blk_frozen BK116.out 0; have hfz38_1 := blk_frozen BK116.out 1; have hfz38_2 := blk_frozen BK116.out 2; have hfz38_3 := blk_frozen BK116.out 3)))
                    refine bodyPost_ret (results_ct rfl _ _ gb116 63 #[.int .i64 t124, .slice Ao5 l0_1.length co5, .int .i64 t126, .bool true] (0, 0) _ rfl (by (with_reducible repeat (first | refine blk_drewN ?_ _ | refine blk_drew ?_ | refine blk_alloc ?_ _)); refine blk_put (cs := #[.int .i64 t124, .slice Ao5 l0_1.length co5, .int .i64 t126, .bool false]) ?_ 3 _ rfl; (with_reducible repeat (first | refine blk_drewN ?_ _ | refine blk_drew ?_ | refine blk_alloc ?_ _)); refine blk_put (cs := #[.int .i64 t124, .slice Ao5 l0_1.length co5, .int .i64 0, .bool false]) ?_ 2 _ rfl; (with_reducible repeat (first | refine blk_drewN ?_ _ | refine blk_drew ?_ | refine blk_alloc ?_ _)); refine blk_put (cs := #[.int .i64 t124, .slice none 0 0, .int .i64 0, .bool false]) ?_ 1 _ rfl; (with_reducible repeat (first | refine blk_drewN ?_ _ | refine blk_drew ?_ | refine blk_alloc ?_ _)); refine blk_put (cs := #[.int .i64 0, .slice none 0 0, .int .i64 0, .bool false]) ?_ 0 _ rfl; (with_reducible repeat (first | refine blk_drewN ?_ _ | refine blk_drew ?_ | refine blk_alloc ?_ _)); refine blk_far ?_ NB116_115.out _; (with_reducible repeat (first | refine blk_drewN ?_ _ | refine blk_drew ?_ | refine blk_alloc ?_ _)); refine blk_far ?_ NB116_115.out _; (with_reducible repeat (first | refine blk_drewN ?_ _ | refine blk_drew ?_ | refine blk_alloc ?_ _)); refine blk_far ?_ NB116_115.out _; (with_reducible repeat (first | refine blk_drewN ?_ _ | refine blk_drew ?_ | refine blk_alloc ?_ _)); exact BK116.out) Tryd.underlying63 rfl (by kernel_rfl)) rfl ?_
                    exact ⟨_, by first | rfl | (simp [errW_none, errW_some] <;> rfl) | (simp [*, errW_none, errW_some] <;> rfl), by (with_reducible repeat (first | apply Kd.R_alloc | apply Kd.R_drewN | apply Kd.R_drew)); exact Kd.R_mono (Kd.R_far (p := ⟨gb116, 3, none⟩) (Kd.R_far (p := ⟨gb116, 2, none⟩) (Kd.R_far (p := ⟨gb116, 1, none⟩) (Kd.R_far (p := ⟨gb116, 0, none⟩) (Kd.R_far (p := ⟨gb115, 3, none⟩) (Kd.R_far (p := ⟨gb115, 2, none⟩) (Kd.R_far (p := ⟨gb115, 0, none⟩) (Kd.R_types (Kd.R_types HO_116001.out BK115.out (by decide)) BK116.out (by decide)) (fun _ hk => hk.1.2) (.int .i64 t124)) (fun _ hk => hk.1.2) (.int .i64 t126)) (fun _ hk => hk.1.2) (.bool true)) (fun _ hk => hk.2) (.int .i64 t124)) (fun _ hk => hk.2) (.slice Ao5 l0_1.length co5)) (fun _ hk => hk.2) (.int .i64 t126)) (fun _ hk => hk.2) (.bool true)) (fun _ hk => hk.1.1), by repeat (first | (with_reducible first | exact HB.out | apply below_alloc | apply pw_below_drewN | apply below_drew1 | refine below_set ?_ GE115.out | refine below_set ?_ GE116.out) | exact HB.out), by repeat (first | (with_reducible first | exact HK.out | apply Kept.alloc | apply Kept.drewN | apply Kept.drew | refine Kept.setCell ?_ (.inr GW115.out) _ | refine Kept.setCell ?_ (.inr GW116.out) _) | exact HK.out)⟩
                  · rw [if_neg c34] at H
                    have c34b0 : decide (0 ≤ t124) = false := decide_eq_false c34
                    clear c34
                    simp only [Option.some.injEq, Prod.mk.injEq] at H
                    obtain ⟨rfl, rfl, rfl, rfl, rfl⟩ := H
                    obtain ⟨Ao39, co39, eo39⟩ := Kd.R_slice HO_6.out
                    subst eo39
                    have p123 : 0 ≤ (2 : Int) := (by omega)
                    have q123 : 2 < (t117.length : Int) := of_decide_eq_true (by first | (with_reducible assumption) | assumption)
                    obtain ⟨ad123, e123, hx123_0⟩ := Kd.at_string (Kd.R_reads' HO_6.out).2.2 2 p123 q123
                    cases e123
                    (try simp only [show (2 : Int).toNat = 2 from rfl, Nat.reduceMul, Nat.reduceEqDiff, Go.Addr.add, ↓reduceIte] at hx123_0)
                    have qi123 : (2 < t117.length) = True := eq_true (by omega)
                    (try rw [show ((2 : Int)).toNat = 2 from rfl] at hx123_0)
                    replace p123 := eq_true p123
                    replace q123 := eq_true q123
                    go_wp2_with (first | (go_at_call 20; (with_reducible refine (postroadref05_Number.calls kj16 (rdOf ByteArray.empty t117 2) 16777216 t124 _ A31.out).mono ?_); rintro e w' ⟨rfl, ⟨nd, rfl⟩⟩; (try first | exact ⟨rfl, _, World.drewN_drewN _ _ _⟩ | exact ⟨rfl, _, Eq.trans (World.drewN_drewN _ _ _) (congrArg (World.drewN _) (Nat.add_assoc _ _ _))⟩); have p125 : 0 ≤ (3 : Int) := (by omega); have q125 : 3 < (t117.length : Int) := of_decide_eq_true (by first | (with_reducible assumption) | assumption); obtain ⟨ad125, e125, hx125_0⟩ := Kd.at_string (Kd.R_reads' HO_6.out).2.2 3 p125 q125; obtain rfl : ad123 = ad125 := (by injection e125); (try simp only [show (3 : Int).toNat = 3 from rfl, Nat.reduceMul, Nat.reduceEqDiff, Go.Addr.add, ↓reduceIte] at hx125_0); have qi125 : (3 < t117.length) = True := eq_true (by omega); (try rw [show ((3 : Int)).toNat = 3 from rfl] at hx125_0); replace p125 := eq_true p125; replace q125 := eq_true q125) | (go_at_call 20; (with_reducible refine (postroadref05_Number.calls kj16 (rdOf ByteArray.empty t117 3) 67108864 t126 _ A33.out).mono ?_); rintro e w' ⟨rfl, ⟨nd, rfl⟩⟩; (try first | exact ⟨rfl, _, World.drewN_drewN _ _ _⟩ | exact ⟨rfl, _, Eq.trans (World.drewN_drewN _ _ _) (congrArg (World.drewN _) (Nat.add_assoc _ _ _))⟩); have hnb40 := NB115_116.out; have hnc40 := NB116_115.out; have hcz41_0 : wc.cell? ⟨gb115, 0, none⟩ = some (.int .i64 a0_0) := (blk_cell BK115.out 0).trans rfl; have hcz41_1 : wc.cell? ⟨gb115, 1, none⟩ = some (.slice Ao5 l0_1.length co5) := (blk_cell BK115.out 1).trans rfl; have hcz41_2 : wc.cell? ⟨gb115, 2, none⟩ = some (.int .i64 a0_2) := (blk_cell BK115.out 2).trans rfl; have hcz41_3 : wc.cell? ⟨gb115, 3, none⟩ = some (.bool a0_3) := (blk_cell BK115.out 3).trans rfl; have hfz41_0 := blk_frozen BK115.out 0; have hfz41_1 := blk_frozen BK115.out 1; have hfz41_2 := blk_frozen BK115.out 2; have hfz41_3 := blk_frozen BK115.out 3; have hcz42_0 : wc.cell? ⟨gb116, 0, none⟩ = some (.int .i64 0) := (blk_cell BK116.out 0).trans rfl; have hcz42_1 : wc.cell? ⟨gb116, 1, none⟩ = some (.slice none 0 0) := (blk_cell BK116.out 1).trans rfl; have hcz42_2 : wc.cell? ⟨gb116, 2, none⟩ = some (.int .i64 0) := (blk_cell BK116.out 2).trans rfl; have hcz42_3 : wc.cell? ⟨gb116, 3, none⟩ = some (.bool false) := (blk_cell BK116.out 3).trans rfl; have hfz42_0 := blk_frozen BK116.out 0; have hfz42_1 := blk_frozen BK116.out 1; have hfz42_2 := blk_frozen BK116.out 2; have hfz42_3 := blk_frozen BK116.out 3))
                    repeat (go_quiet (first | (go_at_call 20; (with_reducible refine (postroadref05_Number.calls kj16 (rdOf ByteArray.empty t117 2) 16777216 t124 _ A31.out).mono ?_); rintro e w' ⟨rfl, ⟨nd, rfl⟩⟩; (try first | exact ⟨rfl, _, World.drewN_drewN _ _ _⟩ | exact ⟨rfl, _, Eq.trans (World.drewN_drewN _ _ _) (congrArg (World.drewN _) (Nat.add_assoc _ _ _))⟩); have p125 : 0 ≤ (3 : Int) := (by omega); have q125 : 3 < (t117.length : Int) := of_decide_eq_true (by first | (with_reducible assumption) | assumption); obtain ⟨ad125, e125, hx125_0⟩ := Kd.at_string (Kd.R_reads' HO_6.out).2.2 3 p125 q125; obtain rfl : ad123 = ad125 := (by injection e125); (try simp only [show (3 : Int).toNat = 3 from rfl, Nat.reduceMul, Nat.reduceEqDiff, Go.Addr.add, ↓reduceIte] at hx125_0); have qi125 : (3 < t117.length) = True := eq_true (by omega); (try rw [show ((3 : Int)).toNat = 3 from rfl] at hx125_0); replace p125 := eq_true p125; replace q125 := eq_true q125) | (go_at_call 20; (with_reducible refine (postroadref05_Number.calls kj16 (rdOf ByteArray.empty t117 3) 67108864 t126 _ A33.out).mono ?_); rintro e w' ⟨rfl, ⟨nd, rfl⟩⟩; (try first | exact ⟨rfl, _, World.drewN_drewN _ _ _⟩ | exact ⟨rfl, _, Eq.trans (World.drewN_drewN _ _ _) (congrArg (World.drewN _) (Nat.add_assoc _ _ _))⟩); have hnb40 := NB115_116.out; have hnc40 := NB116_115.out; have hcz41_0 : wc.cell? ⟨gb115, 0, none⟩ = some (.int .i64 a0_0) := (blk_cell BK115.out 0).trans rfl; have hcz41_1 : wc.cell? ⟨gb115, 1, none⟩ = some (.slice Ao5 l0_1.length co5) := (blk_cell BK115.out 1).trans rfl; have hcz41_2 : wc.cell? ⟨gb115, 2, none⟩ = some (.int .i64 a0_2) := (blk_cell BK115.out 2).trans rfl; have hcz41_3 : wc.cell? ⟨gb115, 3, none⟩ = some (.bool a0_3) := (blk_cell BK115.out 3).trans rfl; have hfz41_0 := blk_frozen BK115.out 0; have hfz41_1 := blk_frozen BK115.out 1; have hfz41_2 := blk_frozen BK115.out 2; have hfz41_3 := blk_frozen BK115.out 3; have hcz42_0 : wc.cell? ⟨gb116, 0, none⟩ = some (.int .i64 0) := (blk_cell BK116.out 0).trans rfl; have hcz42_1 : wc.cell? ⟨gb116, 1, none⟩ = some (.slice none 0 0) := (blk_cell BK116.out 1).trans rfl; have hcz42_2 : wc.cell? ⟨gb116, 2, none⟩ = some (.int .i64 0) := (blk_cell BK116.out 2).trans rfl; have hcz42_3 : wc.cell? ⟨gb116, 3, none⟩ = some (.bool false) := (blk_cell BK116.out 3).trans rfl; have hfz42_0 := blk_frozen BK116.out 0; have hfz42_1 := blk_frozen BK116.out 1; have hfz42_2 := blk_frozen BK116.out 2; have hfz42_3 := blk_frozen BK116.out 3)); try go_wp2_with (first | (go_at_call 20; (with_reducible refine (postroadref05_Number.calls kj16 (rdOf ByteArray.empty t117 2) 16777216 t124 _ A31.out).mono ?_); rintro e w' ⟨rfl, ⟨nd, rfl⟩⟩; (try first | exact ⟨rfl, _, World.drewN_drewN _ _ _⟩ | exact ⟨rfl, _, Eq.trans (World.drewN_drewN _ _ _) (congrArg (World.drewN _) (Nat.add_assoc _ _ _))⟩); have p125 : 0 ≤ (3 : Int) := (by omega); have q125 : 3 < (t117.length : Int) := of_decide_eq_true (by first | (with_reducible assumption) | assumption); obtain ⟨ad125, e125, hx125_0⟩ := Kd.at_string (Kd.R_reads' HO_6.out).2.2 3 p125 q125; obtain rfl : ad123 = ad125 := (by injection e125); (try simp only [show (3 : Int).toNat = 3 from rfl, Nat.reduceMul, Nat.reduceEqDiff, Go.Addr.add, ↓reduceIte] at hx125_0); have qi125 : (3 < t117.length) = True := eq_true (by omega); (try rw [show ((3 : Int)).toNat = 3 from rfl] at hx125_0); replace p125 := eq_true p125; replace q125 := eq_true q125) | (go_at_call 20; (with_reducible refine (postroadref05_Number.calls kj16 (rdOf ByteArray.empty t117 3) 67108864 t126 _ A33.out).mono ?_); rintro e w' ⟨rfl, ⟨nd, rfl⟩⟩; (try first | exact ⟨rfl, _, World.drewN_drewN _ _ _⟩ | exact ⟨rfl, _, Eq.trans (World.drewN_drewN _ _ _) (congrArg (World.drewN _) (Nat.add_assoc _ _ _))⟩); have hnb40 := NB115_116.out; have hnc40 := NB116_115.out; have hcz41_0 : wc.cell? ⟨gb115, 0, none⟩ = some (.int .i64 a0_0) := (blk_cell BK115.out 0).trans rfl; have hcz41_1 : wc.cell? ⟨gb115, 1, none⟩ = some (.slice Ao5 l0_1.length co5) := (blk_cell BK115.out 1).trans rfl; have hcz41_2 : wc.cell? ⟨gb115, 2, none⟩ = some (.int .i64 a0_2) := (blk_cell BK115.out 2).trans rfl; have hcz41_3 : wc.cell? ⟨gb115, 3, none⟩ = some (.bool a0_3) := (blk_cell BK115.out 3).trans rfl; have hfz41_0 := blk_frozen BK115.out 0; have hfz41_1 := blk_frozen BK115.out 1; have hfz41_2 := blk_frozen BK115.out 2; have hfz41_3 := blk_frozen BK115.out 3; have hcz42_0 : wc.cell? ⟨gb116, 0, none⟩ = some (.int .i64 0) := (blk_cell BK116.out 0).trans rfl; have hcz42_1 : wc.cell? ⟨gb116, 1, none⟩ = some (.slice none 0 0) := (blk_cell BK116.out 1).trans rfl; have hcz42_2 : wc.cell? ⟨gb116, 2, none⟩ = some (.int .i64 0) := (blk_cell BK116.out 2).trans rfl; have hcz42_3 : wc.cell? ⟨gb116, 3, none⟩ = some (.bool false) := (blk_cell BK116.out 3).trans rfl; have hfz42_0 := blk_frozen BK116.out 0; have hfz42_1 := blk_frozen BK116.out 1; have hfz42_2 := blk_frozen BK116.out 2; have hfz42_3 := blk_frozen BK116.out 3)))
                    refine bodyPost_ret (results_ct rfl _ _ gb116 63 #[.int .i64 t124, .slice Ao5 l0_1.length co5, .int .i64 t126, .bool true] (0, 0) _ rfl (by (with_reducible repeat (first | refine blk_drewN ?_ _ | refine blk_drew ?_ | refine blk_alloc ?_ _)); refine blk_put (cs := #[.int .i64 t124, .slice Ao5 l0_1.length co5, .int .i64 t126, .bool false]) ?_ 3 _ rfl; (with_reducible repeat (first | refine blk_drewN ?_ _ | refine blk_drew ?_ | refine blk_alloc ?_ _)); refine blk_put (cs := #[.int .i64 t124, .slice Ao5 l0_1.length co5, .int .i64 0, .bool false]) ?_ 2 _ rfl; (with_reducible repeat (first | refine blk_drewN ?_ _ | refine blk_drew ?_ | refine blk_alloc ?_ _)); refine blk_put (cs := #[.int .i64 t124, .slice none 0 0, .int .i64 0, .bool false]) ?_ 1 _ rfl; (with_reducible repeat (first | refine blk_drewN ?_ _ | refine blk_drew ?_ | refine blk_alloc ?_ _)); refine blk_put (cs := #[.int .i64 0, .slice none 0 0, .int .i64 0, .bool false]) ?_ 0 _ rfl; (with_reducible repeat (first | refine blk_drewN ?_ _ | refine blk_drew ?_ | refine blk_alloc ?_ _)); refine blk_far ?_ NB116_115.out _; (with_reducible repeat (first | refine blk_drewN ?_ _ | refine blk_drew ?_ | refine blk_alloc ?_ _)); refine blk_far ?_ NB116_115.out _; (with_reducible repeat (first | refine blk_drewN ?_ _ | refine blk_drew ?_ | refine blk_alloc ?_ _)); refine blk_far ?_ NB116_115.out _; (with_reducible repeat (first | refine blk_drewN ?_ _ | refine blk_drew ?_ | refine blk_alloc ?_ _)); exact BK116.out) Tryd.underlying63 rfl (by kernel_rfl)) rfl ?_
                    exact ⟨_, by first | rfl | (simp [errW_none, errW_some] <;> rfl) | (simp [*, errW_none, errW_some] <;> rfl), by (with_reducible repeat (first | apply Kd.R_alloc | apply Kd.R_drewN | apply Kd.R_drew)); exact Kd.R_mono (Kd.R_far (p := ⟨gb116, 3, none⟩) (Kd.R_far (p := ⟨gb116, 2, none⟩) (Kd.R_far (p := ⟨gb116, 1, none⟩) (Kd.R_far (p := ⟨gb116, 0, none⟩) (Kd.R_far (p := ⟨gb115, 3, none⟩) (Kd.R_far (p := ⟨gb115, 2, none⟩) (Kd.R_far (p := ⟨gb115, 0, none⟩) (Kd.R_types (Kd.R_types HO_116001.out BK115.out (by decide)) BK116.out (by decide)) (fun _ hk => hk.1.2) (.int .i64 t124)) (fun _ hk => hk.1.2) (.int .i64 t126)) (fun _ hk => hk.1.2) (.bool true)) (fun _ hk => hk.2) (.int .i64 t124)) (fun _ hk => hk.2) (.slice Ao5 l0_1.length co5)) (fun _ hk => hk.2) (.int .i64 t126)) (fun _ hk => hk.2) (.bool true)) (fun _ hk => hk.1.1), by repeat (first | (with_reducible first | exact HB.out | apply below_alloc | apply pw_below_drewN | apply below_drew1 | refine below_set ?_ GE115.out | refine below_set ?_ GE116.out) | exact HB.out), by repeat (first | (with_reducible first | exact HK.out | apply Kept.alloc | apply Kept.drewN | apply Kept.drew | refine Kept.setCell ?_ (.inr GW115.out) _ | refine Kept.setCell ?_ (.inr GW116.out) _) | exact HK.out)⟩
                · rw [if_neg c32] at H
                  exact absurd H (by simp)
              · rw [if_neg c30] at H
                exact absurd H (by simp)
            · replace c29 := Bool.eq_false_iff.mpr c29
              subst c29
              have H1 : (if 0 < (t117.length : Int) then (if (rdOf ByteArray.empty t117 0).toList = ([97] : List UInt8) then (if (t117.length : Int) = 4 then (if a0_3 = true then (postroadref05_line.j2 kj16 t117 (decide ((l0_1.length : Int) < a0_2)) a0_0 l0_1 a0_2 a0_3) else (postroadref05_line.j2 kj16 t117 false a0_0 l0_1 a0_2 a0_3)) else (postroadref05_line.j2 kj16 t117 false a0_0 l0_1 a0_2 a0_3)) else (postroadref05_line.j2 kj16 t117 false a0_0 l0_1 a0_2 a0_3)) else (none)) = some (r1, r2, r3, r4, r5) := by rw [if_neg (show ¬ (false = true) by decide)] at H; exact H
              clear H
              have H := H1
              clear H1
              have HC43 := Aside0.mk H
              clear H
              go_upto_region 11 with (fail)
              repeat (go_quiet (fail); go_upto_region 11 with (fail))
              go_cut [86] (fun v86 wc => ∃ (kq : Nat) (x86_42 : Bool), v86 = .bool x86_42 ∧ Aside0 (postroadref05_line.j2 kq t117 x86_42 a0_0 l0_1 a0_2 a0_3 = some (r1, r2, r3, r4, r5)) ∧ Aside0 (kq ≤ kj16) ∧ Aside0 (Kd.R Kd.string 9 wc w0.heap.size (fun k_ => (P0_1_ k_ ∨ w.heap.size ≤ k_)) v118 t117) ∧ Aside0 (Kd.R k50 50 wc w0.heap.size (fun k_ => (P0_1_ k_ ∨ w.heap.size ≤ k_)) (.slice Ao5 l0_1.length co5) l0_1) ∧ Aside0 (wc.heap[gb115]? = some (.cells #[.int .i64 a0_0, (.slice Ao5 l0_1.length co5), .int .i64 a0_2, .bool a0_3] 63 (0, 0))) ∧ Aside0 (wc.heap[gb116]? = some (.cells #[.int .i64 0, (.slice none 0 0), .int .i64 0, .bool false] 63 (0, 0))) ∧ Aside0 (Kept w wc (fun k_ => P0_1_ k_)) ∧ Aside0 (Below w0.heap.size w0 wc))
              case first =>
                have H := HC43.out
                clear HC43
                by_cases c44 : 0 < (t117.length : Int)
                · rw [if_pos c44] at H
                  have c44b0 : decide (0 < (t117.length : Int)) = true := decide_eq_true c44
                  have c44b1 : decide (0 < t117.length) = true := decide_eq_true (by omega)
                  clear c44
                  (first | rw [c44b0] | (simp only [i64_w, i32_w]; rw [c44b0]) | skip)
                  by_cases c45 : (rdOf ByteArray.empty t117 0).toList = ([97] : List UInt8)
                  · rw [if_pos c45] at H
                    have c45b0 : ((rdOf ByteArray.empty t117 0).toList == ([97] : List UInt8)) = true := beq_iff_eq.mpr c45
                    have c45b1 : ((rdOf ByteArray.empty t117 0).toList != ([97] : List UInt8)) = false := bne_eq_false_iff_eq.mpr c45
                    clear c45
                    by_cases c46 : (t117.length : Int) = 4
                    · rw [if_pos c46] at H
                      have c46b0 : ((t117.length : Int) == 4) = true := beq_iff_eq.mpr c46
                      have c46b1 : ((t117.length : Int) != 4) = false := bne_eq_false_iff_eq.mpr c46
                      clear c46
                      by_cases c47 : a0_3 = true
                      · subst c47
                        have H1 : (postroadref05_line.j2 kj16 t117 (decide ((l0_1.length : Int) < a0_2)) a0_0 l0_1 a0_2 true) = some (r1, r2, r3, r4, r5) := by rw [if_pos rfl] at H; exact H
                        clear H
                        have H := H1
                        clear H1
                        have H' := Aside0.mk H
                        clear H
                        obtain ⟨Ao48, co48, eo48⟩ := Kd.R_slice HO_6.out
                        subst eo48
                        have p127 : 0 ≤ (0 : Int) := (by omega)
                        have q127 : 0 < (t117.length : Int) := of_decide_eq_true (by first | (with_reducible assumption) | assumption)
                        obtain ⟨ad127, e127, hx127_0⟩ := Kd.at_string (Kd.R_reads' HO_6.out).2.2 0 p127 q127
                        cases e127
                        have qi127 : (0 < t117.length) = True := eq_true (by omega)
                        (try rw [show ((0 : Int)).toNat = 0 from rfl] at hx127_0)
                        (try rw [Addr.add_zero'] at hx127_0)
                        replace p127 := eq_true p127
                        replace q127 := eq_true q127
                        have hnb49 := NB115_116.out
                        have hnc49 := NB116_115.out
                        have hcz50_0 : wc.cell? ⟨gb115, 0, none⟩ = some (.int .i64 a0_0) := (blk_cell BK115.out 0).trans rfl
                        have hcz50_1 : wc.cell? ⟨gb115, 1, none⟩ = some (.slice Ao5 l0_1.length co5) := (blk_cell BK115.out 1).trans rfl
                        have hcz50_2 : wc.cell? ⟨gb115, 2, none⟩ = some (.int .i64 a0_2) := (blk_cell BK115.out 2).trans rfl
                        have hcz50_3 : wc.cell? ⟨gb115, 3, none⟩ = some (.bool true) := (blk_cell BK115.out 3).trans rfl
                        have hfz50_0 := blk_frozen BK115.out 0
                        have hfz50_1 := blk_frozen BK115.out 1
                        have hfz50_2 := blk_frozen BK115.out 2
                        have hfz50_3 := blk_frozen BK115.out 3
                        go_wp2
                        repeat (go_quiet (fail); try go_wp2)
                        go_meet
                        case rel => exact ⟨_, (decide ((l0_1.length : Int) < a0_2)), (by first | rfl | (simp; done) | (simp [*]; done)), H', ⟨by have := HJ3.out; have := HJ16.out; first | omega | exact Nat.le_refl _⟩, ⟨by (with_reducible repeat (first | apply Kd.R_alloc | apply Kd.R_drewN | apply Kd.R_drew)); exact HO_6.out⟩, ⟨by (with_reducible repeat (first | apply Kd.R_alloc | apply Kd.R_drewN | apply Kd.R_drew)); exact HO_116001.out⟩, ⟨by (with_reducible repeat (first | refine blk_drewN ?_ _ | refine blk_drew ?_ | refine blk_alloc ?_ _)); exact BK115.out⟩, ⟨by (with_reducible repeat (first | refine blk_drewN ?_ _ | refine blk_drew ?_ | refine blk_alloc ?_ _)); exact BK116.out⟩, ⟨by repeat (first | (with_reducible first | exact HK.out | apply Kept.alloc | apply Kept.drewN | apply Kept.drew | refine Kept.setCell ?_ (.inr GW115.out) _ | refine Kept.setCell ?_ (.inr GW116.out) _) | exact HK.out)⟩, ⟨by repeat (first | (with_reducible first | exact HB.out | apply below_alloc | apply pw_below_drewN | apply below_drew1 | refine below_set ?_ GE115.out | refine below_set ?_ GE116.out) | exact HB.out)⟩⟩
                      · replace c47 := Bool.eq_false_iff.mpr c47
                        subst c47
                        have H1 : (postroadref05_line.j2 kj16 t117 false a0_0 l0_1 a0_2 false) = some (r1, r2, r3, r4, r5) := by rw [if_neg (show ¬ (false = true) by decide)] at H; exact H
                        clear H
                        have H := H1
                        clear H1
                        have H' := Aside0.mk H
                        clear H
                        obtain ⟨Ao51, co51, eo51⟩ := Kd.R_slice HO_6.out
                        subst eo51
                        have p127 : 0 ≤ (0 : Int) := (by omega)
                        have q127 : 0 < (t117.length : Int) := of_decide_eq_true (by first | (with_reducible assumption) | assumption)
                        obtain ⟨ad127, e127, hx127_0⟩ := Kd.at_string (Kd.R_reads' HO_6.out).2.2 0 p127 q127
                        cases e127
                        have qi127 : (0 < t117.length) = True := eq_true (by omega)
                        (try rw [show ((0 : Int)).toNat = 0 from rfl] at hx127_0)
                        (try rw [Addr.add_zero'] at hx127_0)
                        replace p127 := eq_true p127
                        replace q127 := eq_true q127
                        have hnb52 := NB115_116.out
                        have hnc52 := NB116_115.out
                        have hcz53_0 : wc.cell? ⟨gb115, 0, none⟩ = some (.int .i64 a0_0) := (blk_cell BK115.out 0).trans rfl
                        have hcz53_1 : wc.cell? ⟨gb115, 1, none⟩ = some (.slice Ao5 l0_1.length co5) := (blk_cell BK115.out 1).trans rfl
                        have hcz53_2 : wc.cell? ⟨gb115, 2, none⟩ = some (.int .i64 a0_2) := (blk_cell BK115.out 2).trans rfl
                        have hcz53_3 : wc.cell? ⟨gb115, 3, none⟩ = some (.bool false) := (blk_cell BK115.out 3).trans rfl
                        have hfz53_0 := blk_frozen BK115.out 0
                        have hfz53_1 := blk_frozen BK115.out 1
                        have hfz53_2 := blk_frozen BK115.out 2
                        have hfz53_3 := blk_frozen BK115.out 3
                        go_wp2
                        repeat (go_quiet (fail); try go_wp2)
                        go_meet
                        case rel => exact ⟨_, (false), (by first | rfl | (simp; done) | (simp [*]; done)), H', ⟨by have := HJ3.out; have := HJ16.out; first | omega | exact Nat.le_refl _⟩, ⟨by (with_reducible repeat (first | apply Kd.R_alloc | apply Kd.R_drewN | apply Kd.R_drew)); exact HO_6.out⟩, ⟨by (with_reducible repeat (first | apply Kd.R_alloc | apply Kd.R_drewN | apply Kd.R_drew)); exact HO_116001.out⟩, ⟨by (with_reducible repeat (first | refine blk_drewN ?_ _ | refine blk_drew ?_ | refine blk_alloc ?_ _)); exact BK115.out⟩, ⟨by (with_reducible repeat (first | refine blk_drewN ?_ _ | refine blk_drew ?_ | refine blk_alloc ?_ _)); exact BK116.out⟩, ⟨by repeat (first | (with_reducible first | exact HK.out | apply Kept.alloc | apply Kept.drewN | apply Kept.drew | refine Kept.setCell ?_ (.inr GW115.out) _ | refine Kept.setCell ?_ (.inr GW116.out) _) | exact HK.out)⟩, ⟨by repeat (first | (with_reducible first | exact HB.out | apply below_alloc | apply pw_below_drewN | apply below_drew1 | refine below_set ?_ GE115.out | refine below_set ?_ GE116.out) | exact HB.out)⟩⟩
                    · rw [if_neg c46] at H
                      have c46b0 : ((t117.length : Int) == 4) = false := beq_eq_false_iff_ne.mpr c46
                      have c46b1 : ((t117.length : Int) != 4) = true := bne_iff_ne.mpr c46
                      have H' := Aside0.mk H
                      clear H
                      obtain ⟨Ao54, co54, eo54⟩ := Kd.R_slice HO_6.out
                      subst eo54
                      have p127 : 0 ≤ (0 : Int) := (by omega)
                      have q127 : 0 < (t117.length : Int) := of_decide_eq_true (by first | (with_reducible assumption) | assumption)
                      obtain ⟨ad127, e127, hx127_0⟩ := Kd.at_string (Kd.R_reads' HO_6.out).2.2 0 p127 q127
                      cases e127
                      have qi127 : (0 < t117.length) = True := eq_true (by omega)
                      (try rw [show ((0 : Int)).toNat = 0 from rfl] at hx127_0)
                      (try rw [Addr.add_zero'] at hx127_0)
                      replace p127 := eq_true p127
                      replace q127 := eq_true q127
                      go_wp2
                      repeat (go_quiet (fail); try go_wp2)
                      go_meet
                      case rel => exact ⟨_, (false), (by first | rfl | (simp; done) | (simp [*]; done)), H', ⟨by have := HJ3.out; have := HJ16.out; first | omega | exact Nat.le_refl _⟩, ⟨by (with_reducible repeat (first | apply Kd.R_alloc | apply Kd.R_drewN | apply Kd.R_drew)); exact HO_6.out⟩, ⟨by (with_reducible repeat (first | apply Kd.R_alloc | apply Kd.R_drewN | apply Kd.R_drew)); exact HO_116001.out⟩, ⟨by (with_reducible repeat (first | refine blk_drewN ?_ _ | refine blk_drew ?_ | refine blk_alloc ?_ _)); exact BK115.out⟩, ⟨by (with_reducible repeat (first | refine blk_drewN ?_ _ | refine blk_drew ?_ | refine blk_alloc ?_ _)); exact BK116.out⟩, ⟨by repeat (first | (with_reducible first | exact HK.out | apply Kept.alloc | apply Kept.drewN | apply Kept.drew | refine Kept.setCell ?_ (.inr GW115.out) _ | refine Kept.setCell ?_ (.inr GW116.out) _) | exact HK.out)⟩, ⟨by repeat (first | (with_reducible first | exact HB.out | apply below_alloc | apply pw_below_drewN | apply below_drew1 | refine below_set ?_ GE115.out | refine below_set ?_ GE116.out) | exact HB.out)⟩⟩
                  · rw [if_neg c45] at H
                    have c45b0 : ((rdOf ByteArray.empty t117 0).toList == ([97] : List UInt8)) = false := beq_eq_false_iff_ne.mpr c45
                    have c45b1 : ((rdOf ByteArray.empty t117 0).toList != ([97] : List UInt8)) = true := bne_iff_ne.mpr c45
                    have H' := Aside0.mk H
                    clear H
                    obtain ⟨Ao55, co55, eo55⟩ := Kd.R_slice HO_6.out
                    subst eo55
                    have p127 : 0 ≤ (0 : Int) := (by omega)
                    have q127 : 0 < (t117.length : Int) := of_decide_eq_true (by first | (with_reducible assumption) | assumption)
                    obtain ⟨ad127, e127, hx127_0⟩ := Kd.at_string (Kd.R_reads' HO_6.out).2.2 0 p127 q127
                    cases e127
                    have qi127 : (0 < t117.length) = True := eq_true (by omega)
                    (try rw [show ((0 : Int)).toNat = 0 from rfl] at hx127_0)
                    (try rw [Addr.add_zero'] at hx127_0)
                    replace p127 := eq_true p127
                    replace q127 := eq_true q127
                    go_wp2
                    repeat (go_quiet (fail); try go_wp2)
                    go_meet
                    case rel => exact ⟨_, (false), (by first | rfl | (simp; done) | (simp [*]; done)), H', ⟨by have := HJ3.out; have := HJ16.out; first | omega | exact Nat.le_refl _⟩, ⟨by (with_reducible repeat (first | apply Kd.R_alloc | apply Kd.R_drewN | apply Kd.R_drew)); exact HO_6.out⟩, ⟨by (with_reducible repeat (first | apply Kd.R_alloc | apply Kd.R_drewN | apply Kd.R_drew)); exact HO_116001.out⟩, ⟨by (with_reducible repeat (first | refine blk_drewN ?_ _ | refine blk_drew ?_ | refine blk_alloc ?_ _)); exact BK115.out⟩, ⟨by (with_reducible repeat (first | refine blk_drewN ?_ _ | refine blk_drew ?_ | refine blk_alloc ?_ _)); exact BK116.out⟩, ⟨by repeat (first | (with_reducible first | exact HK.out | apply Kept.alloc | apply Kept.drewN | apply Kept.drew | refine Kept.setCell ?_ (.inr GW115.out) _ | refine Kept.setCell ?_ (.inr GW116.out) _) | exact HK.out)⟩, ⟨by repeat (first | (with_reducible first | exact HB.out | apply below_alloc | apply pw_below_drewN | apply below_drew1 | refine below_set ?_ GE115.out | refine below_set ?_ GE116.out) | exact HB.out)⟩⟩
                · rw [if_neg c44] at H
                  exact absurd H (by simp)
              case rest =>
                clear HC43
                try clear c1
                try clear p1
                try clear q1
                try clear hx1
                try clear qi1
                try clear c2
                try clear p2
                try clear c3
                try clear c4
                try clear c5
                try clear c9
                try clear c9b0
                try clear c9b1
                try clear c9b2
                try clear c11
                try clear c11b0
                try clear c11b1
                try clear p12
                try clear q12
                try clear hx12
                try clear qi12
                try clear c13
                try clear c14
                try clear c18
                try clear c18b0
                try clear c18b1
                try clear c19
                try clear c19b0
                try clear c19b1
                try clear c20
                try clear c20b0
                try clear c20b1
                try clear c21
                try clear c21b0
                try clear c21b1
                try clear c22
                try clear c22b0
                try clear c22b1
                try clear c24
                try clear c26
                try clear c29
                try clear c30
                try clear c30b0
                try clear c30b1
                try clear c32
                try clear c32b0
                try clear c32b1
                try clear c34
                try clear c34b0
                try clear c36
                try clear c40
                try clear c44
                try clear c44b0
                try clear c44b1
                try clear c45
                try clear c45b0
                try clear c45b1
                try clear c46
                try clear c46b0
                try clear c46b1
                try clear c47
                try clear c49
                try clear c52
                try clear hcz15_0
                try clear hcz15_1
                try clear hcz15_2
                try clear hcz15_3
                try clear hcz16_0
                try clear hcz16_1
                try clear hcz16_2
                try clear hcz16_3
                try clear hcz25_0
                try clear hcz25_1
                try clear hcz25_2
                try clear hcz25_3
                try clear hcz37_0
                try clear hcz37_1
                try clear hcz37_2
                try clear hcz37_3
                try clear hcz38_0
                try clear hcz38_1
                try clear hcz38_2
                try clear hcz38_3
                try clear hcz41_0
                try clear hcz41_1
                try clear hcz41_2
                try clear hcz41_3
                try clear hcz42_0
                try clear hcz42_1
                try clear hcz42_2
                try clear hcz42_3
                try clear hcz50_0
                try clear hcz50_1
                try clear hcz50_2
                try clear hcz50_3
                try clear hcz53_0
                try clear hcz53_1
                try clear hcz53_2
                try clear hcz53_3
                try clear hfz15_0
                try clear hfz15_1
                try clear hfz15_2
                try clear hfz15_3
                try clear hfz16_0
                try clear hfz16_1
                try clear hfz16_2
                try clear hfz16_3
                try clear hfz25_0
                try clear hfz25_1
                try clear hfz25_2
                try clear hfz25_3
                try clear hfz37_0
                try clear hfz37_1
                try clear hfz37_2
                try clear hfz37_3
                try clear hfz38_0
                try clear hfz38_1
                try clear hfz38_2
                try clear hfz38_3
                try clear hfz41_0
                try clear hfz41_1
                try clear hfz41_2
                try clear hfz41_3
                try clear hfz42_0
                try clear hfz42_1
                try clear hfz42_2
                try clear hfz42_3
                try clear hfz50_0
                try clear hfz50_1
                try clear hfz50_2
                try clear hfz50_3
                try clear hfz53_0
                try clear hfz53_1
                try clear hfz53_2
                try clear hfz53_3
                try clear hx120_0
                try clear hx121_0
                try clear hx122_0
                try clear hx123_0
                try clear hx125_0
                try clear hx127_0
                try clear p1
                try clear p12
                try clear p120
                try clear p121
                try clear p122
                try clear p123
                try clear p125
                try clear p127
                try clear p2
                try clear q1
                try clear q12
                try clear q120
                try clear q121
                try clear q122
                try clear q123
                try clear q125
                try clear q127
                obtain ⟨kq, x86_42, rfl, HA, HJ42, HO_6, HO_116001, BK115, BK116, HK, HB⟩ := hcut
                cases kq with
                | zero => exact absurd HA.out (by simp [postroadref05_line.j2])
                | succ kj42 =>
                  have H := HA.out
                  clear HA
                  simp only [postroadref05_line.j2] at H
                  by_cases c56 : x86_42 = true
                  · subst c56
                    have H1 : (if 1 < (t117.length : Int) then ((postroadref05_Number.f kj42 (rdOf ByteArray.empty t117 1) a0_0).bind fun t129 => (if 2 < (t117.length : Int) then ((postroadref05_Number.f kj42 (rdOf ByteArray.empty t117 2) a0_0).bind fun t131 => (if 3 < (t117.length : Int) then ((postroadref05_Number.f kj42 (rdOf ByteArray.empty t117 3) 2147483648).bind fun t133 => (if l0_1.length < 5864062014805 then ((some (l0_1 ++ [(⟨wrap64 (t129 - 1), wrap64 (t131 - 1), t133⟩ : S50)] : List (S50))).bind fun y134 => (if t129 ≥ 1 then (if t131 ≥ 1 then (some (a0_0, y134, a0_2, a0_3, decide (t133 ≥ 0))) else (some (a0_0, y134, a0_2, a0_3, false))) else (some (a0_0, y134, a0_2, a0_3, false)))) else (none))) else (none))) else (none))) else (none)) = some (r1, r2, r3, r4, r5) := by rw [if_pos rfl] at H; exact H
                    clear H
                    have H := H1
                    clear H1
                    by_cases c57 : 1 < (t117.length : Int)
                    · rw [if_pos c57] at H
                      have c57b0 : decide (1 < (t117.length : Int)) = true := decide_eq_true c57
                      have c57b1 : decide (1 < t117.length) = true := decide_eq_true (by omega)
                      clear c57
                      replace H := Option.bind_eq_some_iff.mp H
                      obtain ⟨t129, A580, H⟩ := H
                      replace H : (if 2 < (t117.length : Int) then ((postroadref05_Number.f kj42 (rdOf ByteArray.empty t117 2) a0_0).bind fun t131 => (if 3 < (t117.length : Int) then ((postroadref05_Number.f kj42 (rdOf ByteArray.empty t117 3) 2147483648).bind fun t133 => (if l0_1.length < 5864062014805 then ((some (l0_1 ++ [(⟨wrap64 (t129 - 1), wrap64 (t131 - 1), t133⟩ : S50)] : List (S50))).bind fun y134 => (if t129 ≥ 1 then (if t131 ≥ 1 then (some (a0_0, y134, a0_2, a0_3, decide (t133 ≥ 0))) else (some (a0_0, y134, a0_2, a0_3, false))) else (some (a0_0, y134, a0_2, a0_3, false)))) else (none))) else (none))) else (none)) = some (r1, r2, r3, r4, r5) := H
                      have A58 := Aside0.mk A580
                      clear A580
                      by_cases c59 : 2 < (t117.length : Int)
                      · rw [if_pos c59] at H
                        have c59b0 : decide (2 < (t117.length : Int)) = true := decide_eq_true c59
                        have c59b1 : decide (2 < t117.length) = true := decide_eq_true (by omega)
                        clear c59
                        replace H := Option.bind_eq_some_iff.mp H
                        obtain ⟨t131, A600, H⟩ := H
                        replace H : (if 3 < (t117.length : Int) then ((postroadref05_Number.f kj42 (rdOf ByteArray.empty t117 3) 2147483648).bind fun t133 => (if l0_1.length < 5864062014805 then ((some (l0_1 ++ [(⟨wrap64 (t129 - 1), wrap64 (t131 - 1), t133⟩ : S50)] : List (S50))).bind fun y134 => (if t129 ≥ 1 then (if t131 ≥ 1 then (some (a0_0, y134, a0_2, a0_3, decide (t133 ≥ 0))) else (some (a0_0, y134, a0_2, a0_3, false))) else (some (a0_0, y134, a0_2, a0_3, false)))) else (none))) else (none)) = some (r1, r2, r3, r4, r5) := H
                        have A60 := Aside0.mk A600
                        clear A600
                        by_cases c61 : 3 < (t117.length : Int)
                        · rw [if_pos c61] at H
                          have c61b0 : decide (3 < (t117.length : Int)) = true := decide_eq_true c61
                          have c61b1 : decide (3 < t117.length) = true := decide_eq_true (by omega)
                          clear c61
                          replace H := Option.bind_eq_some_iff.mp H
                          obtain ⟨t133, A620, H⟩ := H
                          replace H : (if l0_1.length < 5864062014805 then ((some (l0_1 ++ [(⟨wrap64 (t129 - 1), wrap64 (t131 - 1), t133⟩ : S50)] : List (S50))).bind fun y134 => (if t129 ≥ 1 then (if t131 ≥ 1 then (some (a0_0, y134, a0_2, a0_3, decide (t133 ≥ 0))) else (some (a0_0, y134, a0_2, a0_3, false))) else (some (a0_0, y134, a0_2, a0_3, false)))) else (none)) = some (r1, r2, r3, r4, r5) := H
                          have A62 := Aside0.mk A620
                          clear A620
                          by_cases c63 : l0_1.length < 5864062014805
                          · rw [if_pos c63] at H
                            have LMc63 := Aside0.mk c63
                            clear c63
                            obtain ⟨y134, hy134⟩ : ∃ y_ : List (S50), y_ = (l0_1 ++ [(⟨wrap64 (t129 - 1), wrap64 (t131 - 1), t133⟩ : S50)]) := ⟨_, rfl⟩
                            replace H : (if t129 ≥ 1 then (if t131 ≥ 1 then (some (a0_0, y134, a0_2, a0_3, decide (t133 ≥ 0))) else (some (a0_0, y134, a0_2, a0_3, false))) else (some (a0_0, y134, a0_2, a0_3, false))) = some (r1, r2, r3, r4, r5) := by first | (rw [hy134]; with_reducible exact H) | (have H2_ := (Option.bind_some _ _).symm.trans H; rw [hy134]; with_reducible exact H2_) | (have H2_ := (Option.bind_some _ _).symm.trans H; with_reducible exact H2_) | with_reducible exact H | (rw [hy134]; exact H) | exact H
                            have Ny134 := Aside0.mk hy134
                            clear hy134
                            by_cases c64 : t129 ≥ 1
                            · rw [if_pos c64] at H
                              have c64b0 : decide (1 ≤ t129) = true := decide_eq_true c64
                              clear c64
                              by_cases c65 : t131 ≥ 1
                              · rw [if_pos c65] at H
                                have c65b0 : decide (1 ≤ t131) = true := decide_eq_true c65
                                clear c65
                                simp only [Option.some.injEq, Prod.mk.injEq] at H
                                obtain ⟨rfl, rfl, rfl, rfl, rfl⟩ := H
                                obtain ⟨Ao66, co66, eo66⟩ := Kd.R_slice HO_6.out
                                subst eo66
                                have p128 : 0 ≤ (1 : Int) := (by omega)
                                have q128 : 1 < (t117.length : Int) := of_decide_eq_true (by first | (with_reducible assumption) | assumption)
                                obtain ⟨ad128, e128, hx128_0⟩ := Kd.at_string (Kd.R_reads' HO_6.out).2.2 1 p128 q128
                                cases e128
                                (try simp only [show (1 : Int).toNat = 1 from rfl, Nat.reduceMul, Nat.reduceEqDiff, Go.Addr.add, ↓reduceIte] at hx128_0)
                                have qi128 : (1 < t117.length) = True := eq_true (by omega)
                                (try rw [show ((1 : Int)).toNat = 1 from rfl] at hx128_0)
                                replace p128 := eq_true p128
                                replace q128 := eq_true q128
                                have hnb67 := NB115_116.out
                                have hnc67 := NB116_115.out
                                have hcz68_0 : wc.cell? ⟨gb115, 0, none⟩ = some (.int .i64 a0_0) := (blk_cell BK115.out 0).trans rfl
                                have hcz68_1 : wc.cell? ⟨gb115, 1, none⟩ = some (.slice Ao5 l0_1.length co5) := (blk_cell BK115.out 1).trans rfl
                                have hcz68_2 : wc.cell? ⟨gb115, 2, none⟩ = some (.int .i64 a0_2) := (blk_cell BK115.out 2).trans rfl
                                have hcz68_3 : wc.cell? ⟨gb115, 3, none⟩ = some (.bool a0_3) := (blk_cell BK115.out 3).trans rfl
                                have hfz68_0 := blk_frozen BK115.out 0
                                have hfz68_1 := blk_frozen BK115.out 1
                                have hfz68_2 := blk_frozen BK115.out 2
                                have hfz68_3 := blk_frozen BK115.out 3
                                go_wp2_with (first | (go_at_call 20; (with_reducible refine (postroadref05_Number.calls kj42 (rdOf ByteArray.empty t117 1) a0_0 t129 _ A58.out).mono ?_); rintro e w' ⟨rfl, ⟨nd, rfl⟩⟩; (try first | exact ⟨rfl, _, World.drewN_drewN _ _ _⟩ | exact ⟨rfl, _, Eq.trans (World.drewN_drewN _ _ _) (congrArg (World.drewN _) (Nat.add_assoc _ _ _))⟩); have p130 : 0 ≤ (2 : Int) := (by omega); have q130 : 2 < (t117.length : Int) := of_decide_eq_true (by first | (with_reducible assumption) | assumption); obtain ⟨ad130, e130, hx130_0⟩ := Kd.at_string (Kd.R_reads' HO_6.out).2.2 2 p130 q130; obtain rfl : ad128 = ad130 := (by injection e130); (try simp only [show (2 : Int).toNat = 2 from rfl, Nat.reduceMul, Nat.reduceEqDiff, Go.Addr.add, ↓reduceIte] at hx130_0); have qi130 : (2 < t117.length) = True := eq_true (by omega); (try rw [show ((2 : Int)).toNat = 2 from rfl] at hx130_0); replace p130 := eq_true p130; replace q130 := eq_true q130) | (go_at_call 20; (with_reducible refine (postroadref05_Number.calls kj42 (rdOf ByteArray.empty t117 2) a0_0 t131 _ A60.out).mono ?_); rintro e w' ⟨rfl, ⟨nd, rfl⟩⟩; (try first | exact ⟨rfl, _, World.drewN_drewN _ _ _⟩ | exact ⟨rfl, _, Eq.trans (World.drewN_drewN _ _ _) (congrArg (World.drewN _) (Nat.add_assoc _ _ _))⟩); have p132 : 0 ≤ (3 : Int) := (by omega); have q132 : 3 < (t117.length : Int) := of_decide_eq_true (by first | (with_reducible assumption) | assumption); obtain ⟨ad132, e132, hx132_0⟩ := Kd.at_string (Kd.R_reads' HO_6.out).2.2 3 p132 q132; obtain rfl : ad128 = ad132 := (by injection e132); (try simp only [show (3 : Int).toNat = 3 from rfl, Nat.reduceMul, Nat.reduceEqDiff, Go.Addr.add, ↓reduceIte] at hx132_0); have qi132 : (3 < t117.length) = True := eq_true (by omega); (try rw [show ((3 : Int)).toNat = 3 from rfl] at hx132_0); replace p132 := eq_true p132; replace q132 := eq_true q132) | (go_at_call 20; (with_reducible refine (postroadref05_Number.calls kj42 (rdOf ByteArray.empty t117 3) 2147483648 t133 _ A62.out).mono ?_); rintro e w' ⟨rfl, ⟨nd, rfl⟩⟩; (try first | exact ⟨rfl, _, World.drewN_drewN _ _ _⟩ | exact ⟨rfl, _, Eq.trans (World.drewN_drewN _ _ _) (congrArg (World.drewN _) (Nat.add_assoc _ _ _))⟩)) | ((with_reducible refine gate_builtin (b := .append) (xs := #[.tmp 107, .tmp 114]) rfl ?_); (try (refine gate_guard (by rfl) ?_; dsimp only)); at_builtin; refine Kd.R_append k50 (w0 := w0) w0.heap.size rfl (.tmp 107) (.tmp 114) 23 50 (.agg #[(.int .i64 0), (.int .i64 0), (.int .i64 0)]) 24 rfl Tryd.underlying23 info50 rfl (by decide) (by omega) (.slice Ao5 l0_1.length co5) l0_1 (⟨wrap64 (t129 - 1), wrap64 (t131 - 1), t133⟩ : S50) [.int .i64 (wrap64 (t129 - 1)), .int .i64 (wrap64 (t131 - 1)), .int .i64 t133] (fun k_ => (P0_1_ k_ ∨ w.heap.size ≤ k_)) (fun _ => False) rfl rfl ?aP (fun _ hk => hk.elim) ?aF ?aO ?aB ?aS ?aL ?_; (case aP => exact k50_mkM _ _ _ (⟨wrap64 (t129 - 1), wrap64 (t131 - 1), t133⟩ : S50)); (case aB => exact (by repeat (first | (with_reducible first | exact HB.out | apply below_alloc | apply pw_below_drewN | apply below_drew1 | refine below_set ?_ GE115.out | refine below_set ?_ GE116.out) | exact HB.out))); (case aF => exact (fun k_ hk => (.inr (Nat.le_trans (by first | exact HK.out.1 | exact (show Kept w _ (fun k_ => P0_1_ k_) from by repeat (first | (with_reducible first | exact HK.out | apply Kept.alloc | apply Kept.drewN | apply Kept.drew | refine Kept.setCell ?_ (.inr GW115.out) _ | refine Kept.setCell ?_ (.inr GW116.out) _) | exact HK.out)).1) hk)))); (case aO => exact (by (with_reducible repeat (first | apply Kd.R_alloc | apply Kd.R_drewN | apply Kd.R_drew)); exact HO_116001.out)); (case aS => exact (below_size (by repeat (first | (with_reducible first | exact HB.out | apply below_alloc | apply pw_below_drewN | apply below_drew1 | refine below_set ?_ GE115.out | refine below_set ?_ GE116.out) | exact HB.out)))); (case aL => have := LMc63.out; omega); intro v135 w69 ho hb hg hat; rw [← Ny134.out] at ho; have n0_ := Aside0.mk (Kd.R_over' (by (with_reducible repeat (first | apply Kd.R_alloc | apply Kd.R_drewN | apply Kd.R_drew)); exact HO_6.out) (Kd.R_typed (by (with_reducible repeat (first | apply Kd.R_alloc | apply Kd.R_drewN | apply Kd.R_drew)); exact HO_116001.out)) (by decide) hg); have n1_ := Aside0.mk (blk_grown (g := gb115) (o := .cells #[.int .i64 a0_0, .slice Ao5 l0_1.length co5, .int .i64 a0_2, .bool a0_3] 63 (0, 0)) (by (with_reducible repeat (first | refine blk_drewN ?_ _ | refine blk_drew ?_ | refine blk_alloc ?_ _)); exact BK115.out) hg (Kd.R_ne HO_116001.out BK115.out (by decide))); have n2_ := Aside0.mk (blk_grown (g := gb116) (o := .cells #[.int .i64 0, .slice none 0 0, .int .i64 0, .bool false] 63 (0, 0)) (by (with_reducible repeat (first | refine blk_drewN ?_ _ | refine blk_drew ?_ | refine blk_alloc ?_ _)); exact BK116.out) hg (Kd.R_ne HO_116001.out BK116.out (by decide))); have n3_ := Aside0.mk (hb); have n4_ := Aside0.mk (Kept.of_grown (S := (fun k_ => P0_1_ k_)) hg (by repeat (first | (with_reducible first | exact HK.out | apply Kept.alloc | apply Kept.drewN | apply Kept.drew | refine Kept.setCell ?_ (.inr GW115.out) _ | refine Kept.setCell ?_ (.inr GW116.out) _) | exact HK.out)) (fun k_ e_ => (HO_116001.out.1 k_ e_))); have n5_ := Aside0.mk (ho); clear HO_6; clear BK115; clear BK116; clear HB; clear HK; clear HO_116001; have HO_6 := n0_; have BK115 := n1_; have BK116 := n2_; have HB := n3_; have HK := n4_; have HO136 := n5_; clear n0_ n1_ n2_ n3_ n4_ n5_; clear ho hb hg hat; obtain ⟨Ao70, co70, eo70⟩ := Kd.R_slice HO136.out; subst eo70; have hcz71_0 : w69.cell? ⟨gb115, 0, none⟩ = some (.int .i64 a0_0) := (blk_cell BK115.out 0).trans rfl; have hcz71_1 : w69.cell? ⟨gb115, 1, none⟩ = some (.slice Ao5 l0_1.length co5) := (blk_cell BK115.out 1).trans rfl; have hcz71_2 : w69.cell? ⟨gb115, 2, none⟩ = some (.int .i64 a0_2) := (blk_cell BK115.out 2).trans rfl; have hcz71_3 : w69.cell? ⟨gb115, 3, none⟩ = some (.bool a0_3) := (blk_cell BK115.out 3).trans rfl; have hfz71_0 := blk_frozen BK115.out 0; have hfz71_1 := blk_frozen BK115.out 1; have hfz71_2 := blk_frozen BK115.out 2; have hfz71_3 := blk_frozen BK115.out 3; have hcz72_0 : w69.cell? ⟨gb116, 0, none⟩ = some (.int .i64 0) := (blk_cell BK116.out 0).trans rfl; have hcz72_1 : w69.cell? ⟨gb116, 1, none⟩ = some (.slice none 0 0) := (blk_cell BK116.out 1).trans rfl; have hcz72_2 : w69.cell? ⟨gb116, 2, none⟩ = some (.int .i64 0) := (blk_cell BK116.out 2).trans rfl; have hcz72_3 : w69.cell? ⟨gb116, 3, none⟩ = some (.bool false) := (blk_cell BK116.out 3).trans rfl; have hfz72_0 := blk_frozen BK116.out 0; have hfz72_1 := blk_frozen BK116.out 1; have hfz72_2 := blk_frozen BK116.out 2; have hfz72_3 := blk_frozen BK116.out 3))
                                repeat (go_quiet (first | (go_at_call 20; (with_reducible refine (postroadref05_Number.calls kj42 (rdOf ByteArray.empty t117 1) a0_0 t129 _ A58.out).mono ?_); rintro e w' ⟨rfl, ⟨nd, rfl⟩⟩; (try first | exact ⟨rfl, _, World.drewN_drewN _ _ _⟩ | exact ⟨rfl, _, Eq.trans (World.drewN_drewN _ _ _) (congrArg (World.drewN _) (Nat.add_assoc _ _ _))⟩); have p130 : 0 ≤ (2 : Int) := (by omega); have q130 : 2 < (t117.length : Int) := of_decide_eq_true (by first | (with_reducible assumption) | assumption); obtain ⟨ad130, e130, hx130_0⟩ := Kd.at_string (Kd.R_reads' HO_6.out).2.2 2 p130 q130; obtain rfl : ad128 = ad130 := (by injection e130); (try simp only [show (2 : Int).toNat = 2 from rfl, Nat.reduceMul, Nat.reduceEqDiff, Go.Addr.add, ↓reduceIte] at hx130_0); have qi130 : (2 < t117.length) = True := eq_true (by omega); (try rw [show ((2 : Int)).toNat = 2 from rfl] at hx130_0); replace p130 := eq_true p130; replace q130 := eq_true q130) | (go_at_call 20; (with_reducible refine (postroadref05_Number.calls kj42 (rdOf ByteArray.empty t117 2) a0_0 t131 _ A60.out).mono ?_); rintro e w' ⟨rfl, ⟨nd, rfl⟩⟩; (try first | exact ⟨rfl, _, World.drewN_drewN _ _ _⟩ | exact ⟨rfl, _, Eq.trans (World.drewN_drewN _ _ _) (congrArg (World.drewN _) (Nat.add_assoc _ _ _))⟩); have p132 : 0 ≤ (3 : Int) := (by omega); have q132 : 3 < (t117.length : Int) := of_decide_eq_true (by first | (with_reducible assumption) | assumption); obtain ⟨ad132, e132, hx132_0⟩ := Kd.at_string (Kd.R_reads' HO_6.out).2.2 3 p132 q132; obtain rfl : ad128 = ad132 := (by injection e132); (try simp only [show (3 : Int).toNat = 3 from rfl, Nat.reduceMul, Nat.reduceEqDiff, Go.Addr.add, ↓reduceIte] at hx132_0); have qi132 : (3 < t117.length) = True := eq_true (by omega); (try rw [show ((3 : Int)).toNat = 3 from rfl] at hx132_0); replace p132 := eq_true p132; replace q132 := eq_true q132) | (go_at_call 20; (with_reducible refine (postroadref05_Number.calls kj42 (rdOf ByteArray.empty t117 3) 2147483648 t133 _ A62.out).mono ?_); rintro e w' ⟨rfl, ⟨nd, rfl⟩⟩; (try first | exact ⟨rfl, _, World.drewN_drewN _ _ _⟩ | exact ⟨rfl, _, Eq.trans (World.drewN_drewN _ _ _) (congrArg (World.drewN _) (Nat.add_assoc _ _ _))⟩)) | ((with_reducible refine gate_builtin (b := .append) (xs := #[.tmp 107, .tmp 114]) rfl ?_); (try (refine gate_guard (by rfl) ?_; dsimp only)); at_builtin; refine Kd.R_append k50 (w0 := w0) w0.heap.size rfl (.tmp 107) (.tmp 114) 23 50 (.agg #[(.int .i64 0), (.int .i64 0), (.int .i64 0)]) 24 rfl Tryd.underlying23 info50 rfl (by decide) (by omega) (.slice Ao5 l0_1.length co5) l0_1 (⟨wrap64 (t129 - 1), wrap64 (t131 - 1), t133⟩ : S50) [.int .i64 (wrap64 (t129 - 1)), .int .i64 (wrap64 (t131 - 1)), .int .i64 t133] (fun k_ => (P0_1_ k_ ∨ w.heap.size ≤ k_)) (fun _ => False) rfl rfl ?aP (fun _ hk => hk.elim) ?aF ?aO ?aB ?aS ?aL ?_; (case aP => exact k50_mkM _ _ _ (⟨wrap64 (t129 - 1), wrap64 (t131 - 1), t133⟩ : S50)); (case aB => exact (by repeat (first | (with_reducible first | exact HB.out | apply below_alloc | apply pw_below_drewN | apply below_drew1 | refine below_set ?_ GE115.out | refine below_set ?_ GE116.out) | exact HB.out))); (case aF => exact (fun k_ hk => (.inr (Nat.le_trans (by first | exact HK.out.1 | exact (show Kept w _ (fun k_ => P0_1_ k_) from by repeat (first | (with_reducible first | exact HK.out | apply Kept.alloc | apply Kept.drewN | apply Kept.drew | refine Kept.setCell ?_ (.inr GW115.out) _ | refine Kept.setCell ?_ (.inr GW116.out) _) | exact HK.out)).1) hk)))); (case aO => exact (by (with_reducible repeat (first | apply Kd.R_alloc | apply Kd.R_drewN | apply Kd.R_drew)); exact HO_116001.out)); (case aS => exact (below_size (by repeat (first | (with_reducible first | exact HB.out | apply below_alloc | apply pw_below_drewN | apply below_drew1 | refine below_set ?_ GE115.out | refine below_set ?_ GE116.out) | exact HB.out)))); (case aL => have := LMc63.out; omega); intro v135 w69 ho hb hg hat; rw [← Ny134.out] at ho; have n0_ := Aside0.mk (Kd.R_over' (by (with_reducible repeat (first | apply Kd.R_alloc | apply Kd.R_drewN | apply Kd.R_drew)); exact HO_6.out) (Kd.R_typed (by (with_reducible repeat (first | apply Kd.R_alloc | apply Kd.R_drewN | apply Kd.R_drew)); exact HO_116001.out)) (by decide) hg); have n1_ := Aside0.mk (blk_grown (g := gb115) (o := .cells #[.int .i64 a0_0, .slice Ao5 l0_1.length co5, .int .i64 a0_2, .bool a0_3] 63 (0, 0)) (by (with_reducible repeat (first | refine blk_drewN ?_ _ | refine blk_drew ?_ | refine blk_alloc ?_ _)); exact BK115.out) hg (Kd.R_ne HO_116001.out BK115.out (by decide))); have n2_ := Aside0.mk (blk_grown (g := gb116) (o := .cells #[.int .i64 0, .slice none 0 0, .int .i64 0, .bool false] 63 (0, 0)) (by (with_reducible repeat (first | refine blk_drewN ?_ _ | refine blk_drew ?_ | refine blk_alloc ?_ _)); exact BK116.out) hg (Kd.R_ne HO_116001.out BK116.out (by decide))); have n3_ := Aside0.mk (hb); have n4_ := Aside0.mk (Kept.of_grown (S := (fun k_ => P0_1_ k_)) hg (by repeat (first | (with_reducible first | exact HK.out | apply Kept.alloc | apply Kept.drewN | apply Kept.drew | refine Kept.setCell ?_ (.inr GW115.out) _ | refine Kept.setCell ?_ (.inr GW116.out) _) | exact HK.out)) (fun k_ e_ => (HO_116001.out.1 k_ e_))); have n5_ := Aside0.mk (ho); clear HO_6; clear BK115; clear BK116; clear HB; clear HK; clear HO_116001; have HO_6 := n0_; have BK115 := n1_; have BK116 := n2_; have HB := n3_; have HK := n4_; have HO136 := n5_; clear n0_ n1_ n2_ n3_ n4_ n5_; clear ho hb hg hat; obtain ⟨Ao70, co70, eo70⟩ := Kd.R_slice HO136.out; subst eo70; have hcz71_0 : w69.cell? ⟨gb115, 0, none⟩ = some (.int .i64 a0_0) := (blk_cell BK115.out 0).trans rfl; have hcz71_1 : w69.cell? ⟨gb115, 1, none⟩ = some (.slice Ao5 l0_1.length co5) := (blk_cell BK115.out 1).trans rfl; have hcz71_2 : w69.cell? ⟨gb115, 2, none⟩ = some (.int .i64 a0_2) := (blk_cell BK115.out 2).trans rfl; have hcz71_3 : w69.cell? ⟨gb115, 3, none⟩ = some (.bool a0_3) := (blk_cell BK115.out 3).trans rfl; have hfz71_0 := blk_frozen BK115.out 0; have hfz71_1 := blk_frozen BK115.out 1; have hfz71_2 := blk_frozen BK115.out 2; have hfz71_3 := blk_frozen BK115.out 3; have hcz72_0 : w69.cell? ⟨gb116, 0, none⟩ = some (.int .i64 0) := (blk_cell BK116.out 0).trans rfl; have hcz72_1 : w69.cell? ⟨gb116, 1, none⟩ = some (.slice none 0 0) := (blk_cell BK116.out 1).trans rfl; have hcz72_2 : w69.cell? ⟨gb116, 2, none⟩ = some (.int .i64 0) := (blk_cell BK116.out 2).trans rfl; have hcz72_3 : w69.cell? ⟨gb116, 3, none⟩ = some (.bool false) := (blk_cell BK116.out 3).trans rfl; have hfz72_0 := blk_frozen BK116.out 0; have hfz72_1 := blk_frozen BK116.out 1; have hfz72_2 := blk_frozen BK116.out 2; have hfz72_3 := blk_frozen BK116.out 3)); try go_wp2_with (first | (go_at_call 20; (with_reducible refine (postroadref05_Number.calls kj42 (rdOf ByteArray.empty t117 1) a0_0 t129 _ A58.out).mono ?_); rintro e w' ⟨rfl, ⟨nd, rfl⟩⟩; (try first | exact ⟨rfl, _, World.drewN_drewN _ _ _⟩ | exact ⟨rfl, _, Eq.trans (World.drewN_drewN _ _ _) (congrArg (World.drewN _) (Nat.add_assoc _ _ _))⟩); have p130 : 0 ≤ (2 : Int) := (by omega); have q130 : 2 < (t117.length : Int) := of_decide_eq_true (by first | (with_reducible assumption) | assumption); obtain ⟨ad130, e130, hx130_0⟩ := Kd.at_string (Kd.R_reads' HO_6.out).2.2 2 p130 q130; obtain rfl : ad128 = ad130 := (by injection e130); (try simp only [show (2 : Int).toNat = 2 from rfl, Nat.reduceMul, Nat.reduceEqDiff, Go.Addr.add, ↓reduceIte] at hx130_0); have qi130 : (2 < t117.length) = True := eq_true (by omega); (try rw [show ((2 : Int)).toNat = 2 from rfl] at hx130_0); replace p130 := eq_true p130; replace q130 := eq_true q130) | (go_at_call 20; (with_reducible refine (postroadref05_Number.calls kj42 (rdOf ByteArray.empty t117 2) a0_0 t131 _ A60.out).mono ?_); rintro e w' ⟨rfl, ⟨nd, rfl⟩⟩; (try first | exact ⟨rfl, _, World.drewN_drewN _ _ _⟩ | exact ⟨rfl, _, Eq.trans (World.drewN_drewN _ _ _) (congrArg (World.drewN _) (Nat.add_assoc _ _ _))⟩); have p132 : 0 ≤ (3 : Int) := (by omega); have q132 : 3 < (t117.length : Int) := of_decide_eq_true (by first | (with_reducible assumption) | assumption); obtain ⟨ad132, e132, hx132_0⟩ := Kd.at_string (Kd.R_reads' HO_6.out).2.2 3 p132 q132; obtain rfl : ad128 = ad132 := (by injection e132); (try simp only [show (3 : Int).toNat = 3 from rfl, Nat.reduceMul, Nat.reduceEqDiff, Go.Addr.add, ↓reduceIte] at hx132_0); have qi132 : (3 < t117.length) = True := eq_true (by omega); (try rw [show ((3 : Int)).toNat = 3 from rfl] at hx132_0); replace p132 := eq_true p132; replace q132 := eq_true q132) | (go_at_call 20; (with_reducible refine (postroadref05_Number.calls kj42 (rdOf ByteArray.empty t117 3) 2147483648 t133 _ A62.out).mono ?_); rintro e w' ⟨rfl, ⟨nd, rfl⟩⟩; (try first | exact ⟨rfl, _, World.drewN_drewN _ _ _⟩ | exact ⟨rfl, _, Eq.trans (World.drewN_drewN _ _ _) (congrArg (World.drewN _) (Nat.add_assoc _ _ _))⟩)) | ((with_reducible refine gate_builtin (b := .append) (xs := #[.tmp 107, .tmp 114]) rfl ?_); (try (refine gate_guard (by rfl) ?_; dsimp only)); at_builtin; refine Kd.R_append k50 (w0 := w0) w0.heap.size rfl (.tmp 107) (.tmp 114) 23 50 (.agg #[(.int .i64 0), (.int .i64 0), (.int .i64 0)]) 24 rfl Tryd.underlying23 info50 rfl (by decide) (by omega) (.slice Ao5 l0_1.length co5) l0_1 (⟨wrap64 (t129 - 1), wrap64 (t131 - 1), t133⟩ : S50) [.int .i64 (wrap64 (t129 - 1)), .int .i64 (wrap64 (t131 - 1)), .int .i64 t133] (fun k_ => (P0_1_ k_ ∨ w.heap.size ≤ k_)) (fun _ => False) rfl rfl ?aP (fun _ hk => hk.elim) ?aF ?aO ?aB ?aS ?aL ?_; (case aP => exact k50_mkM _ _ _ (⟨wrap64 (t129 - 1), wrap64 (t131 - 1), t133⟩ : S50)); (case aB => exact (by repeat (first | (with_reducible first | exact HB.out | apply below_alloc | apply pw_below_drewN | apply below_drew1 | refine below_set ?_ GE115.out | refine below_set ?_ GE116.out) | exact HB.out))); (case aF => exact (fun k_ hk => (.inr (Nat.le_trans (by first | exact HK.out.1 | exact (show Kept w _ (fun k_ => P0_1_ k_) from by repeat (first | (with_reducible first | exact HK.out | apply Kept.alloc | apply Kept.drewN | apply Kept.drew | refine Kept.setCell ?_ (.inr GW115.out) _ | refine Kept.setCell ?_ (.inr GW116.out) _) | exact HK.out)).1) hk)))); (case aO => exact (by (with_reducible repeat (first | apply Kd.R_alloc | apply Kd.R_drewN | apply Kd.R_drew)); exact HO_116001.out)); (case aS => exact (below_size (by repeat (first | (with_reducible first | exact HB.out | apply below_alloc | apply pw_below_drewN | apply below_drew1 | refine below_set ?_ GE115.out | refine below_set ?_ GE116.out) | exact HB.out)))); (case aL => have := LMc63.out; omega); intro v135 w69 ho hb hg hat; rw [← Ny134.out] at ho; have n0_ := Aside0.mk (Kd.R_over' (by (with_reducible repeat (first | apply Kd.R_alloc | apply Kd.R_drewN | apply Kd.R_drew)); exact HO_6.out) (Kd.R_typed (by (with_reducible repeat (first | apply Kd.R_alloc | apply Kd.R_drewN | apply Kd.R_drew)); exact HO_116001.out)) (by decide) hg); have n1_ := Aside0.mk (blk_grown (g := gb115) (o := .cells #[.int .i64 a0_0, .slice Ao5 l0_1.length co5, .int .i64 a0_2, .bool a0_3] 63 (0, 0)) (by (with_reducible repeat (first | refine blk_drewN ?_ _ | refine blk_drew ?_ | refine blk_alloc ?_ _)); exact BK115.out) hg (Kd.R_ne HO_116001.out BK115.out (by decide))); have n2_ := Aside0.mk (blk_grown (g := gb116) (o := .cells #[.int .i64 0, .slice none 0 0, .int .i64 0, .bool false] 63 (0, 0)) (by (with_reducible repeat (first | refine blk_drewN ?_ _ | refine blk_drew ?_ | refine blk_alloc ?_ _)); exact BK116.out) hg (Kd.R_ne HO_116001.out BK116.out (by decide))); have n3_ := Aside0.mk (hb); have n4_ := Aside0.mk (Kept.of_grown (S := (fun k_ => P0_1_ k_)) hg (by repeat (first | (with_reducible first | exact HK.out | apply Kept.alloc | apply Kept.drewN | apply Kept.drew | refine Kept.setCell ?_ (.inr GW115.out) _ | refine Kept.setCell ?_ (.inr GW116.out) _) | exact HK.out)) (fun k_ e_ => (HO_116001.out.1 k_ e_))); have n5_ := Aside0.mk (ho); clear HO_6; clear BK115; clear BK116; clear HB; clear HK; clear HO_116001; have HO_6 := n0_; have BK115 := n1_; have BK116 := n2_; have HB := n3_; have HK := n4_; have HO136 := n5_; clear n0_ n1_ n2_ n3_ n4_ n5_; clear ho hb hg hat; obtain ⟨Ao70, co70, eo70⟩ := Kd.R_slice HO136.out; subst eo70; have hcz71_0 : w69.cell? ⟨gb115, 0, none⟩ = some (.int .i64 a0_0) := (blk_cell BK115.out 0).trans rfl; have hcz71_1 : w69.cell? ⟨gb115, 1, none⟩ = some (.slice Ao5 l0_1.length co5) := (blk_cell BK115.out 1).trans rfl; have hcz71_2 : w69.cell? ⟨gb115, 2, none⟩ = some (.int .i64 a0_2) := (blk_cell BK115.out 2).trans rfl; have hcz71_3 : w69.cell? ⟨gb115, 3, none⟩ = some (.bool a0_3) := (blk_cell BK115.out 3).trans rfl; have hfz71_0 := blk_frozen BK115.out 0; have hfz71_1 := blk_frozen BK115.out 1; have hfz71_2 := blk_frozen BK115.out 2; have hfz71_3 := blk_frozen BK115.out 3; have hcz72_0 : w69.cell? ⟨gb116, 0, none⟩ = some (.int .i64 0) := (blk_cell BK116.out 0).trans rfl; have hcz72_1 : w69.cell? ⟨gb116, 1, none⟩ = some (.slice none 0 0) := (blk_cell BK116.out 1).trans rfl; have hcz72_2 : w69.cell? ⟨gb116, 2, none⟩ = some (.int .i64 0) := (blk_cell BK116.out 2).trans rfl; have hcz72_3 : w69.cell? ⟨gb116, 3, none⟩ = some (.bool false) := (blk_cell BK116.out 3).trans rfl; have hfz72_0 := blk_frozen BK116.out 0; have hfz72_1 := blk_frozen BK116.out 1; have hfz72_2 := blk_frozen BK116.out 2; have hfz72_3 := blk_frozen BK116.out 3)))
                                refine bodyPost_ret (results_ct rfl _ _ gb116 63 #[.int .i64 a0_0, .slice Ao70 y134.length co70, .int .i64 a0_2, .bool a0_3] (0, 0) _ rfl (by (with_reducible repeat (first | refine blk_drewN ?_ _ | refine blk_drew ?_ | refine blk_alloc ?_ _)); refine blk_put (cs := #[.int .i64 a0_0, .slice Ao70 y134.length co70, .int .i64 a0_2, .bool false]) ?_ 3 _ rfl; (with_reducible repeat (first | refine blk_drewN ?_ _ | refine blk_drew ?_ | refine blk_alloc ?_ _)); refine blk_put (cs := #[.int .i64 a0_0, .slice Ao70 y134.length co70, .int .i64 0, .bool false]) ?_ 2 _ rfl; (with_reducible repeat (first | refine blk_drewN ?_ _ | refine blk_drew ?_ | refine blk_alloc ?_ _)); refine blk_put (cs := #[.int .i64 a0_0, .slice none 0 0, .int .i64 0, .bool false]) ?_ 1 _ rfl; (with_reducible repeat (first | refine blk_drewN ?_ _ | refine blk_drew ?_ | refine blk_alloc ?_ _)); refine blk_put (cs := #[.int .i64 0, .slice none 0 0, .int .i64 0, .bool false]) ?_ 0 _ rfl; (with_reducible repeat (first | refine blk_drewN ?_ _ | refine blk_drew ?_ | refine blk_alloc ?_ _)); refine blk_far ?_ NB116_115.out _; (with_reducible repeat (first | refine blk_drewN ?_ _ | refine blk_drew ?_ | refine blk_alloc ?_ _)); exact BK116.out) Tryd.underlying63 rfl (by kernel_rfl)) rfl ?_
                                exact ⟨_, by first | rfl | (simp [errW_none, errW_some] <;> rfl) | (simp [*, errW_none, errW_some] <;> rfl), by (with_reducible repeat (first | apply Kd.R_alloc | apply Kd.R_drewN | apply Kd.R_drew)); exact Kd.R_mono (Kd.R_far (p := ⟨gb116, 3, none⟩) (Kd.R_far (p := ⟨gb116, 2, none⟩) (Kd.R_far (p := ⟨gb116, 1, none⟩) (Kd.R_far (p := ⟨gb116, 0, none⟩) (Kd.R_far (p := ⟨gb115, 1, none⟩) (Kd.R_types (Kd.R_types HO136.out BK115.out (by decide)) BK116.out (by decide)) (fun _ hk => hk.1.2) (.slice Ao70 y134.length co70)) (fun _ hk => hk.2) (.int .i64 a0_0)) (fun _ hk => hk.2) (.slice Ao70 y134.length co70)) (fun _ hk => hk.2) (.int .i64 a0_2)) (fun _ hk => hk.2) (.bool a0_3)) (fun _ hk => hk.1.1), by repeat (first | (with_reducible first | exact HB.out | apply below_alloc | apply pw_below_drewN | apply below_drew1 | refine below_set ?_ GE115.out | refine below_set ?_ GE116.out) | exact HB.out), by repeat (first | (with_reducible first | exact HK.out | apply Kept.alloc | apply Kept.drewN | apply Kept.drew | refine Kept.setCell ?_ (.inr GW115.out) _ | refine Kept.setCell ?_ (.inr GW116.out) _) | exact HK.out)⟩
                              · rw [if_neg c65] at H
                                have c65b0 : decide (1 ≤ t131) = false := decide_eq_false c65
                                clear c65
                                simp only [Option.some.injEq, Prod.mk.injEq] at H
                                obtain ⟨rfl, rfl, rfl, rfl, rfl⟩ := H
                                obtain ⟨Ao73, co73, eo73⟩ := Kd.R_slice HO_6.out
                                subst eo73
                                have p128 : 0 ≤ (1 : Int) := (by omega)
                                have q128 : 1 < (t117.length : Int) := of_decide_eq_true (by first | (with_reducible assumption) | assumption)
                                obtain ⟨ad128, e128, hx128_0⟩ := Kd.at_string (Kd.R_reads' HO_6.out).2.2 1 p128 q128
                                cases e128
                                (try simp only [show (1 : Int).toNat = 1 from rfl, Nat.reduceMul, Nat.reduceEqDiff, Go.Addr.add, ↓reduceIte] at hx128_0)
                                have qi128 : (1 < t117.length) = True := eq_true (by omega)
                                (try rw [show ((1 : Int)).toNat = 1 from rfl] at hx128_0)
                                replace p128 := eq_true p128
                                replace q128 := eq_true q128
                                have hnb74 := NB115_116.out
                                have hnc74 := NB116_115.out
                                have hcz75_0 : wc.cell? ⟨gb115, 0, none⟩ = some (.int .i64 a0_0) := (blk_cell BK115.out 0).trans rfl
                                have hcz75_1 : wc.cell? ⟨gb115, 1, none⟩ = some (.slice Ao5 l0_1.length co5) := (blk_cell BK115.out 1).trans rfl
                                have hcz75_2 : wc.cell? ⟨gb115, 2, none⟩ = some (.int .i64 a0_2) := (blk_cell BK115.out 2).trans rfl
                                have hcz75_3 : wc.cell? ⟨gb115, 3, none⟩ = some (.bool a0_3) := (blk_cell BK115.out 3).trans rfl
                                have hfz75_0 := blk_frozen BK115.out 0
                                have hfz75_1 := blk_frozen BK115.out 1
                                have hfz75_2 := blk_frozen BK115.out 2
                                have hfz75_3 := blk_frozen BK115.out 3
                                go_wp2_with (first | (go_at_call 20; (with_reducible refine (postroadref05_Number.calls kj42 (rdOf ByteArray.empty t117 1) a0_0 t129 _ A58.out).mono ?_); rintro e w' ⟨rfl, ⟨nd, rfl⟩⟩; (try first | exact ⟨rfl, _, World.drewN_drewN _ _ _⟩ | exact ⟨rfl, _, Eq.trans (World.drewN_drewN _ _ _) (congrArg (World.drewN _) (Nat.add_assoc _ _ _))⟩); have p130 : 0 ≤ (2 : Int) := (by omega); have q130 : 2 < (t117.length : Int) := of_decide_eq_true (by first | (with_reducible assumption) | assumption); obtain ⟨ad130, e130, hx130_0⟩ := Kd.at_string (Kd.R_reads' HO_6.out).2.2 2 p130 q130; obtain rfl : ad128 = ad130 := (by injection e130); (try simp only [show (2 : Int).toNat = 2 from rfl, Nat.reduceMul, Nat.reduceEqDiff, Go.Addr.add, ↓reduceIte] at hx130_0); have qi130 : (2 < t117.length) = True := eq_true (by omega); (try rw [show ((2 : Int)).toNat = 2 from rfl] at hx130_0); replace p130 := eq_true p130; replace q130 := eq_true q130) | (go_at_call 20; (with_reducible refine (postroadref05_Number.calls kj42 (rdOf ByteArray.empty t117 2) a0_0 t131 _ A60.out).mono ?_); rintro e w' ⟨rfl, ⟨nd, rfl⟩⟩; (try first | exact ⟨rfl, _, World.drewN_drewN _ _ _⟩ | exact ⟨rfl, _, Eq.trans (World.drewN_drewN _ _ _) (congrArg (World.drewN _) (Nat.add_assoc _ _ _))⟩); have p132 : 0 ≤ (3 : Int) := (by omega); have q132 : 3 < (t117.length : Int) := of_decide_eq_true (by first | (with_reducible assumption) | assumption); obtain ⟨ad132, e132, hx132_0⟩ := Kd.at_string (Kd.R_reads' HO_6.out).2.2 3 p132 q132; obtain rfl : ad128 = ad132 := (by injection e132); (try simp only [show (3 : Int).toNat = 3 from rfl, Nat.reduceMul, Nat.reduceEqDiff, Go.Addr.add, ↓reduceIte] at hx132_0); have qi132 : (3 < t117.length) = True := eq_true (by omega); (try rw [show ((3 : Int)).toNat = 3 from rfl] at hx132_0); replace p132 := eq_true p132; replace q132 := eq_true q132) | (go_at_call 20; (with_reducible refine (postroadref05_Number.calls kj42 (rdOf ByteArray.empty t117 3) 2147483648 t133 _ A62.out).mono ?_); rintro e w' ⟨rfl, ⟨nd, rfl⟩⟩; (try first | exact ⟨rfl, _, World.drewN_drewN _ _ _⟩ | exact ⟨rfl, _, Eq.trans (World.drewN_drewN _ _ _) (congrArg (World.drewN _) (Nat.add_assoc _ _ _))⟩)) | ((with_reducible refine gate_builtin (b := .append) (xs := #[.tmp 107, .tmp 114]) rfl ?_); (try (refine gate_guard (by rfl) ?_; dsimp only)); at_builtin; refine Kd.R_append k50 (w0 := w0) w0.heap.size rfl (.tmp 107) (.tmp 114) 23 50 (.agg #[(.int .i64 0), (.int .i64 0), (.int .i64 0)]) 24 rfl Tryd.underlying23 info50 rfl (by decide) (by omega) (.slice Ao5 l0_1.length co5) l0_1 (⟨wrap64 (t129 - 1), wrap64 (t131 - 1), t133⟩ : S50) [.int .i64 (wrap64 (t129 - 1)), .int .i64 (wrap64 (t131 - 1)), .int .i64 t133] (fun k_ => (P0_1_ k_ ∨ w.heap.size ≤ k_)) (fun _ => False) rfl rfl ?aP (fun _ hk => hk.elim) ?aF ?aO ?aB ?aS ?aL ?_; (case aP => exact k50_mkM _ _ _ (⟨wrap64 (t129 - 1), wrap64 (t131 - 1), t133⟩ : S50)); (case aB => exact (by repeat (first | (with_reducible first | exact HB.out | apply below_alloc | apply pw_below_drewN | apply below_drew1 | refine below_set ?_ GE115.out | refine below_set ?_ GE116.out) | exact HB.out))); (case aF => exact (fun k_ hk => (.inr (Nat.le_trans (by first | exact HK.out.1 | exact (show Kept w _ (fun k_ => P0_1_ k_) from by repeat (first | (with_reducible first | exact HK.out | apply Kept.alloc | apply Kept.drewN | apply Kept.drew | refine Kept.setCell ?_ (.inr GW115.out) _ | refine Kept.setCell ?_ (.inr GW116.out) _) | exact HK.out)).1) hk)))); (case aO => exact (by (with_reducible repeat (first | apply Kd.R_alloc | apply Kd.R_drewN | apply Kd.R_drew)); exact HO_116001.out)); (case aS => exact (below_size (by repeat (first | (with_reducible first | exact HB.out | apply below_alloc | apply pw_below_drewN | apply below_drew1 | refine below_set ?_ GE115.out | refine below_set ?_ GE116.out) | exact HB.out)))); (case aL => have := LMc63.out; omega); intro v135 w76 ho hb hg hat; rw [← Ny134.out] at ho; have n0_ := Aside0.mk (Kd.R_over' (by (with_reducible repeat (first | apply Kd.R_alloc | apply Kd.R_drewN | apply Kd.R_drew)); exact HO_6.out) (Kd.R_typed (by (with_reducible repeat (first | apply Kd.R_alloc | apply Kd.R_drewN | apply Kd.R_drew)); exact HO_116001.out)) (by decide) hg); have n1_ := Aside0.mk (blk_grown (g := gb115) (o := .cells #[.int .i64 a0_0, .slice Ao5 l0_1.length co5, .int .i64 a0_2, .bool a0_3] 63 (0, 0)) (by (with_reducible repeat (first | refine blk_drewN ?_ _ | refine blk_drew ?_ | refine blk_alloc ?_ _)); exact BK115.out) hg (Kd.R_ne HO_116001.out BK115.out (by decide))); have n2_ := Aside0.mk (blk_grown (g := gb116) (o := .cells #[.int .i64 0, .slice none 0 0, .int .i64 0, .bool false] 63 (0, 0)) (by (with_reducible repeat (first | refine blk_drewN ?_ _ | refine blk_drew ?_ | refine blk_alloc ?_ _)); exact BK116.out) hg (Kd.R_ne HO_116001.out BK116.out (by decide))); have n3_ := Aside0.mk (hb); have n4_ := Aside0.mk (Kept.of_grown (S := (fun k_ => P0_1_ k_)) hg (by repeat (first | (with_reducible first | exact HK.out | apply Kept.alloc | apply Kept.drewN | apply Kept.drew | refine Kept.setCell ?_ (.inr GW115.out) _ | refine Kept.setCell ?_ (.inr GW116.out) _) | exact HK.out)) (fun k_ e_ => (HO_116001.out.1 k_ e_))); have n5_ := Aside0.mk (ho); clear HO_6; clear BK115; clear BK116; clear HB; clear HK; clear HO_116001; have HO_6 := n0_; have BK115 := n1_; have BK116 := n2_; have HB := n3_; have HK := n4_; have HO136 := n5_; clear n0_ n1_ n2_ n3_ n4_ n5_; clear ho hb hg hat; obtain ⟨Ao77, co77, eo77⟩ := Kd.R_slice HO136.out; subst eo77; have hcz78_0 : w76.cell? ⟨gb115, 0, none⟩ = some (.int .i64 a0_0) := (blk_cell BK115.out 0).trans rfl; have hcz78_1 : w76.cell? ⟨gb115, 1, none⟩ = some (.slice Ao5 l0_1.length co5) := (blk_cell BK115.out 1).trans rfl; have hcz78_2 : w76.cell? ⟨gb115, 2, none⟩ = some (.int .i64 a0_2) := (blk_cell BK115.out 2).trans rfl; have hcz78_3 : w76.cell? ⟨gb115, 3, none⟩ = some (.bool a0_3) := (blk_cell BK115.out 3).trans rfl; have hfz78_0 := blk_frozen BK115.out 0; have hfz78_1 := blk_frozen BK115.out 1; have hfz78_2 := blk_frozen BK115.out 2; have hfz78_3 := blk_frozen BK115.out 3; have hcz79_0 : w76.cell? ⟨gb116, 0, none⟩ = some (.int .i64 0) := (blk_cell BK116.out 0).trans rfl; have hcz79_1 : w76.cell? ⟨gb116, 1, none⟩ = some (.slice none 0 0) := (blk_cell BK116.out 1).trans rfl; have hcz79_2 : w76.cell? ⟨gb116, 2, none⟩ = some (.int .i64 0) := (blk_cell BK116.out 2).trans rfl; have hcz79_3 : w76.cell? ⟨gb116, 3, none⟩ = some (.bool false) := (blk_cell BK116.out 3).trans rfl; have hfz79_0 := blk_frozen BK116.out 0; have hfz79_1 := blk_frozen BK116.out 1; have hfz79_2 := blk_frozen BK116.out 2; have hfz79_3 := blk_frozen BK116.out 3))
                                repeat (go_quiet (first | (go_at_call 20; (with_reducible refine (postroadref05_Number.calls kj42 (rdOf ByteArray.empty t117 1) a0_0 t129 _ A58.out).mono ?_); rintro e w' ⟨rfl, ⟨nd, rfl⟩⟩; (try first | exact ⟨rfl, _, World.drewN_drewN _ _ _⟩ | exact ⟨rfl, _, Eq.trans (World.drewN_drewN _ _ _) (congrArg (World.drewN _) (Nat.add_assoc _ _ _))⟩); have p130 : 0 ≤ (2 : Int) := (by omega); have q130 : 2 < (t117.length : Int) := of_decide_eq_true (by first | (with_reducible assumption) | assumption); obtain ⟨ad130, e130, hx130_0⟩ := Kd.at_string (Kd.R_reads' HO_6.out).2.2 2 p130 q130; obtain rfl : ad128 = ad130 := (by injection e130); (try simp only [show (2 : Int).toNat = 2 from rfl, Nat.reduceMul, Nat.reduceEqDiff, Go.Addr.add, ↓reduceIte] at hx130_0); have qi130 : (2 < t117.length) = True := eq_true (by omega); (try rw [show ((2 : Int)).toNat = 2 from rfl] at hx130_0); replace p130 := eq_true p130; replace q130 := eq_true q130) | (go_at_call 20; (with_reducible refine (postroadref05_Number.calls kj42 (rdOf ByteArray.empty t117 2) a0_0 t131 _ A60.out).mono ?_); rintro e w' ⟨rfl, ⟨nd, rfl⟩⟩; (try first | exact ⟨rfl, _, World.drewN_drewN _ _ _⟩ | exact ⟨rfl, _, Eq.trans (World.drewN_drewN _ _ _) (congrArg (World.drewN _) (Nat.add_assoc _ _ _))⟩); have p132 : 0 ≤ (3 : Int) := (by omega); have q132 : 3 < (t117.length : Int) := of_decide_eq_true (by first | (with_reducible assumption) | assumption); obtain ⟨ad132, e132, hx132_0⟩ := Kd.at_string (Kd.R_reads' HO_6.out).2.2 3 p132 q132; obtain rfl : ad128 = ad132 := (by injection e132); (try simp only [show (3 : Int).toNat = 3 from rfl, Nat.reduceMul, Nat.reduceEqDiff, Go.Addr.add, ↓reduceIte] at hx132_0); have qi132 : (3 < t117.length) = True := eq_true (by omega); (try rw [show ((3 : Int)).toNat = 3 from rfl] at hx132_0); replace p132 := eq_true p132; replace q132 := eq_true q132) | (go_at_call 20; (with_reducible refine (postroadref05_Number.calls kj42 (rdOf ByteArray.empty t117 3) 2147483648 t133 _ A62.out).mono ?_); rintro e w' ⟨rfl, ⟨nd, rfl⟩⟩; (try first | exact ⟨rfl, _, World.drewN_drewN _ _ _⟩ | exact ⟨rfl, _, Eq.trans (World.drewN_drewN _ _ _) (congrArg (World.drewN _) (Nat.add_assoc _ _ _))⟩)) | ((with_reducible refine gate_builtin (b := .append) (xs := #[.tmp 107, .tmp 114]) rfl ?_); (try (refine gate_guard (by rfl) ?_; dsimp only)); at_builtin; refine Kd.R_append k50 (w0 := w0) w0.heap.size rfl (.tmp 107) (.tmp 114) 23 50 (.agg #[(.int .i64 0), (.int .i64 0), (.int .i64 0)]) 24 rfl Tryd.underlying23 info50 rfl (by decide) (by omega) (.slice Ao5 l0_1.length co5) l0_1 (⟨wrap64 (t129 - 1), wrap64 (t131 - 1), t133⟩ : S50) [.int .i64 (wrap64 (t129 - 1)), .int .i64 (wrap64 (t131 - 1)), .int .i64 t133] (fun k_ => (P0_1_ k_ ∨ w.heap.size ≤ k_)) (fun _ => False) rfl rfl ?aP (fun _ hk => hk.elim) ?aF ?aO ?aB ?aS ?aL ?_; (case aP => exact k50_mkM _ _ _ (⟨wrap64 (t129 - 1), wrap64 (t131 - 1), t133⟩ : S50)); (case aB => exact (by repeat (first | (with_reducible first | exact HB.out | apply below_alloc | apply pw_below_drewN | apply below_drew1 | refine below_set ?_ GE115.out | refine below_set ?_ GE116.out) | exact HB.out))); (case aF => exact (fun k_ hk => (.inr (Nat.le_trans (by first | exact HK.out.1 | exact (show Kept w _ (fun k_ => P0_1_ k_) from by repeat (first | (with_reducible first | exact HK.out | apply Kept.alloc | apply Kept.drewN | apply Kept.drew | refine Kept.setCell ?_ (.inr GW115.out) _ | refine Kept.setCell ?_ (.inr GW116.out) _) | exact HK.out)).1) hk)))); (case aO => exact (by (with_reducible repeat (first | apply Kd.R_alloc | apply Kd.R_drewN | apply Kd.R_drew)); exact HO_116001.out)); (case aS => exact (below_size (by repeat (first | (with_reducible first | exact HB.out | apply below_alloc | apply pw_below_drewN | apply below_drew1 | refine below_set ?_ GE115.out | refine below_set ?_ GE116.out) | exact HB.out)))); (case aL => have := LMc63.out; omega); intro v135 w76 ho hb hg hat; rw [← Ny134.out] at ho; have n0_ := Aside0.mk (Kd.R_over' (by (with_reducible repeat (first | apply Kd.R_alloc | apply Kd.R_drewN | apply Kd.R_drew)); exact HO_6.out) (Kd.R_typed (by (with_reducible repeat (first | apply Kd.R_alloc | apply Kd.R_drewN | apply Kd.R_drew)); exact HO_116001.out)) (by decide) hg); have n1_ := Aside0.mk (blk_grown (g := gb115) (o := .cells #[.int .i64 a0_0, .slice Ao5 l0_1.length co5, .int .i64 a0_2, .bool a0_3] 63 (0, 0)) (by (with_reducible repeat (first | refine blk_drewN ?_ _ | refine blk_drew ?_ | refine blk_alloc ?_ _)); exact BK115.out) hg (Kd.R_ne HO_116001.out BK115.out (by decide))); have n2_ := Aside0.mk (blk_grown (g := gb116) (o := .cells #[.int .i64 0, .slice none 0 0, .int .i64 0, .bool false] 63 (0, 0)) (by (with_reducible repeat (first | refine blk_drewN ?_ _ | refine blk_drew ?_ | refine blk_alloc ?_ _)); exact BK116.out) hg (Kd.R_ne HO_116001.out BK116.out (by decide))); have n3_ := Aside0.mk (hb); have n4_ := Aside0.mk (Kept.of_grown (S := (fun k_ => P0_1_ k_)) hg (by repeat (first | (with_reducible first | exact HK.out | apply Kept.alloc | apply Kept.drewN | apply Kept.drew | refine Kept.setCell ?_ (.inr GW115.out) _ | refine Kept.setCell ?_ (.inr GW116.out) _) | exact HK.out)) (fun k_ e_ => (HO_116001.out.1 k_ e_))); have n5_ := Aside0.mk (ho); clear HO_6; clear BK115; clear BK116; clear HB; clear HK; clear HO_116001; have HO_6 := n0_; have BK115 := n1_; have BK116 := n2_; have HB := n3_; have HK := n4_; have HO136 := n5_; clear n0_ n1_ n2_ n3_ n4_ n5_; clear ho hb hg hat; obtain ⟨Ao77, co77, eo77⟩ := Kd.R_slice HO136.out; subst eo77; have hcz78_0 : w76.cell? ⟨gb115, 0, none⟩ = some (.int .i64 a0_0) := (blk_cell BK115.out 0).trans rfl; have hcz78_1 : w76.cell? ⟨gb115, 1, none⟩ = some (.slice Ao5 l0_1.length co5) := (blk_cell BK115.out 1).trans rfl; have hcz78_2 : w76.cell? ⟨gb115, 2, none⟩ = some (.int .i64 a0_2) := (blk_cell BK115.out 2).trans rfl; have hcz78_3 : w76.cell? ⟨gb115, 3, none⟩ = some (.bool a0_3) := (blk_cell BK115.out 3).trans rfl; have hfz78_0 := blk_frozen BK115.out 0; have hfz78_1 := blk_frozen BK115.out 1; have hfz78_2 := blk_frozen BK115.out 2; have hfz78_3 := blk_frozen BK115.out 3; have hcz79_0 : w76.cell? ⟨gb116, 0, none⟩ = some (.int .i64 0) := (blk_cell BK116.out 0).trans rfl; have hcz79_1 : w76.cell? ⟨gb116, 1, none⟩ = some (.slice none 0 0) := (blk_cell BK116.out 1).trans rfl; have hcz79_2 : w76.cell? ⟨gb116, 2, none⟩ = some (.int .i64 0) := (blk_cell BK116.out 2).trans rfl; have hcz79_3 : w76.cell? ⟨gb116, 3, none⟩ = some (.bool false) := (blk_cell BK116.out 3).trans rfl; have hfz79_0 := blk_frozen BK116.out 0; have hfz79_1 := blk_frozen BK116.out 1; have hfz79_2 := blk_frozen BK116.out 2; have hfz79_3 := blk_frozen BK116.out 3)); try go_wp2_with (first | (go_at_call 20; (with_reducible refine (postroadref05_Number.calls kj42 (rdOf ByteArray.empty t117 1) a0_0 t129 _ A58.out).mono ?_); rintro e w' ⟨rfl, ⟨nd, rfl⟩⟩; (try first | exact ⟨rfl, _, World.drewN_drewN _ _ _⟩ | exact ⟨rfl, _, Eq.trans (World.drewN_drewN _ _ _) (congrArg (World.drewN _) (Nat.add_assoc _ _ _))⟩); have p130 : 0 ≤ (2 : Int) := (by omega); have q130 : 2 < (t117.length : Int) := of_decide_eq_true (by first | (with_reducible assumption) | assumption); obtain ⟨ad130, e130, hx130_0⟩ := Kd.at_string (Kd.R_reads' HO_6.out).2.2 2 p130 q130; obtain rfl : ad128 = ad130 := (by injection e130); (try simp only [show (2 : Int).toNat = 2 from rfl, Nat.reduceMul, Nat.reduceEqDiff, Go.Addr.add, ↓reduceIte] at hx130_0); have qi130 : (2 < t117.length) = True := eq_true (by omega); (try rw [show ((2 : Int)).toNat = 2 from rfl] at hx130_0); replace p130 := eq_true p130; replace q130 := eq_true q130) | (go_at_call 20; (with_reducible refine (postroadref05_Number.calls kj42 (rdOf ByteArray.empty t117 2) a0_0 t131 _ A60.out).mono ?_); rintro e w' ⟨rfl, ⟨nd, rfl⟩⟩; (try first | exact ⟨rfl, _, World.drewN_drewN _ _ _⟩ | exact ⟨rfl, _, Eq.trans (World.drewN_drewN _ _ _) (congrArg (World.drewN _) (Nat.add_assoc _ _ _))⟩); have p132 : 0 ≤ (3 : Int) := (by omega); have q132 : 3 < (t117.length : Int) := of_decide_eq_true (by first | (with_reducible assumption) | assumption); obtain ⟨ad132, e132, hx132_0⟩ := Kd.at_string (Kd.R_reads' HO_6.out).2.2 3 p132 q132; obtain rfl : ad128 = ad132 := (by injection e132); (try simp only [show (3 : Int).toNat = 3 from rfl, Nat.reduceMul, Nat.reduceEqDiff, Go.Addr.add, ↓reduceIte] at hx132_0); have qi132 : (3 < t117.length) = True := eq_true (by omega); (try rw [show ((3 : Int)).toNat = 3 from rfl] at hx132_0); replace p132 := eq_true p132; replace q132 := eq_true q132) | (go_at_call 20; (with_reducible refine (postroadref05_Number.calls kj42 (rdOf ByteArray.empty t117 3) 2147483648 t133 _ A62.out).mono ?_); rintro e w' ⟨rfl, ⟨nd, rfl⟩⟩; (try first | exact ⟨rfl, _, World.drewN_drewN _ _ _⟩ | exact ⟨rfl, _, Eq.trans (World.drewN_drewN _ _ _) (congrArg (World.drewN _) (Nat.add_assoc _ _ _))⟩)) | ((with_reducible refine gate_builtin (b := .append) (xs := #[.tmp 107, .tmp 114]) rfl ?_); (try (refine gate_guard (by rfl) ?_; dsimp only)); at_builtin; refine Kd.R_append k50 (w0 := w0) w0.heap.size rfl (.tmp 107) (.tmp 114) 23 50 (.agg #[(.int .i64 0), (.int .i64 0), (.int .i64 0)]) 24 rfl Tryd.underlying23 info50 rfl (by decide) (by omega) (.slice Ao5 l0_1.length co5) l0_1 (⟨wrap64 (t129 - 1), wrap64 (t131 - 1), t133⟩ : S50) [.int .i64 (wrap64 (t129 - 1)), .int .i64 (wrap64 (t131 - 1)), .int .i64 t133] (fun k_ => (P0_1_ k_ ∨ w.heap.size ≤ k_)) (fun _ => False) rfl rfl ?aP (fun _ hk => hk.elim) ?aF ?aO ?aB ?aS ?aL ?_; (case aP => exact k50_mkM _ _ _ (⟨wrap64 (t129 - 1), wrap64 (t131 - 1), t133⟩ : S50)); (case aB => exact (by repeat (first | (with_reducible first | exact HB.out | apply below_alloc | apply pw_below_drewN | apply below_drew1 | refine below_set ?_ GE115.out | refine below_set ?_ GE116.out) | exact HB.out))); (case aF => exact (fun k_ hk => (.inr (Nat.le_trans (by first | exact HK.out.1 | exact (show Kept w _ (fun k_ => P0_1_ k_) from by repeat (first | (with_reducible first | exact HK.out | apply Kept.alloc | apply Kept.drewN | apply Kept.drew | refine Kept.setCell ?_ (.inr GW115.out) _ | refine Kept.setCell ?_ (.inr GW116.out) _) | exact HK.out)).1) hk)))); (case aO => exact (by (with_reducible repeat (first | apply Kd.R_alloc | apply Kd.R_drewN | apply Kd.R_drew)); exact HO_116001.out)); (case aS => exact (below_size (by repeat (first | (with_reducible first | exact HB.out | apply below_alloc | apply pw_below_drewN | apply below_drew1 | refine below_set ?_ GE115.out | refine below_set ?_ GE116.out) | exact HB.out)))); (case aL => have := LMc63.out; omega); intro v135 w76 ho hb hg hat; rw [← Ny134.out] at ho; have n0_ := Aside0.mk (Kd.R_over' (by (with_reducible repeat (first | apply Kd.R_alloc | apply Kd.R_drewN | apply Kd.R_drew)); exact HO_6.out) (Kd.R_typed (by (with_reducible repeat (first | apply Kd.R_alloc | apply Kd.R_drewN | apply Kd.R_drew)); exact HO_116001.out)) (by decide) hg); have n1_ := Aside0.mk (blk_grown (g := gb115) (o := .cells #[.int .i64 a0_0, .slice Ao5 l0_1.length co5, .int .i64 a0_2, .bool a0_3] 63 (0, 0)) (by (with_reducible repeat (first | refine blk_drewN ?_ _ | refine blk_drew ?_ | refine blk_alloc ?_ _)); exact BK115.out) hg (Kd.R_ne HO_116001.out BK115.out (by decide))); have n2_ := Aside0.mk (blk_grown (g := gb116) (o := .cells #[.int .i64 0, .slice none 0 0, .int .i64 0, .bool false] 63 (0, 0)) (by (with_reducible repeat (first | refine blk_drewN ?_ _ | refine blk_drew ?_ | refine blk_alloc ?_ _)); exact BK116.out) hg (Kd.R_ne HO_116001.out BK116.out (by decide))); have n3_ := Aside0.mk (hb); have n4_ := Aside0.mk (Kept.of_grown (S := (fun k_ => P0_1_ k_)) hg (by repeat (first | (with_reducible first | exact HK.out | apply Kept.alloc | apply Kept.drewN | apply Kept.drew | refine Kept.setCell ?_ (.inr GW115.out) _ | refine Kept.setCell ?_ (.inr GW116.out) _) | exact HK.out)) (fun k_ e_ => (HO_116001.out.1 k_ e_))); have n5_ := Aside0.mk (ho); clear HO_6; clear BK115; clear BK116; clear HB; clear HK; clear HO_116001; have HO_6 := n0_; have BK115 := n1_; have BK116 := n2_; have HB := n3_; have HK := n4_; have HO136 := n5_; clear n0_ n1_ n2_ n3_ n4_ n5_; clear ho hb hg hat; obtain ⟨Ao77, co77, eo77⟩ := Kd.R_slice HO136.out; subst eo77; have hcz78_0 : w76.cell? ⟨gb115, 0, none⟩ = some (.int .i64 a0_0) := (blk_cell BK115.out 0).trans rfl; have hcz78_1 : w76.cell? ⟨gb115, 1, none⟩ = some (.slice Ao5 l0_1.length co5) := (blk_cell BK115.out 1).trans rfl; have hcz78_2 : w76.cell? ⟨gb115, 2, none⟩ = some (.int .i64 a0_2) := (blk_cell BK115.out 2).trans rfl; have hcz78_3 : w76.cell? ⟨gb115, 3, none⟩ = some (.bool a0_3) := (blk_cell BK115.out 3).trans rfl; have hfz78_0 := blk_frozen BK115.out 0; have hfz78_1 := blk_frozen BK115.out 1; have hfz78_2 := blk_frozen BK115.out 2; have hfz78_3 := blk_frozen BK115.out 3; have hcz79_0 : w76.cell? ⟨gb116, 0, none⟩ = some (.int .i64 0) := (blk_cell BK116.out 0).trans rfl; have hcz79_1 : w76.cell? ⟨gb116, 1, none⟩ = some (.slice none 0 0) := (blk_cell BK116.out 1).trans rfl; have hcz79_2 : w76.cell? ⟨gb116, 2, none⟩ = some (.int .i64 0) := (blk_cell BK116.out 2).trans rfl; have hcz79_3 : w76.cell? ⟨gb116, 3, none⟩ = some (.bool false) := (blk_cell BK116.out 3).trans rfl; have hfz79_0 := blk_frozen BK116.out 0; have hfz79_1 := blk_frozen BK116.out 1; have hfz79_2 := blk_frozen BK116.out 2; have hfz79_3 := blk_frozen BK116.out 3)))
                                refine bodyPost_ret (results_ct rfl _ _ gb116 63 #[.int .i64 a0_0, .slice Ao77 y134.length co77, .int .i64 a0_2, .bool a0_3] (0, 0) _ rfl (by (with_reducible repeat (first | refine blk_drewN ?_ _ | refine blk_drew ?_ | refine blk_alloc ?_ _)); refine blk_put (cs := #[.int .i64 a0_0, .slice Ao77 y134.length co77, .int .i64 a0_2, .bool false]) ?_ 3 _ rfl; (with_reducible repeat (first | refine blk_drewN ?_ _ | refine blk_drew ?_ | refine blk_alloc ?_ _)); refine blk_put (cs := #[.int .i64 a0_0, .slice Ao77 y134.length co77, .int .i64 0, .bool false]) ?_ 2 _ rfl; (with_reducible repeat (first | refine blk_drewN ?_ _ | refine blk_drew ?_ | refine blk_alloc ?_ _)); refine blk_put (cs := #[.int .i64 a0_0, .slice none 0 0, .int .i64 0, .bool false]) ?_ 1 _ rfl; (with_reducible repeat (first | refine blk_drewN ?_ _ | refine blk_drew ?_ | refine blk_alloc ?_ _)); refine blk_put (cs := #[.int .i64 0, .slice none 0 0, .int .i64 0, .bool false]) ?_ 0 _ rfl; (with_reducible repeat (first | refine blk_drewN ?_ _ | refine blk_drew ?_ | refine blk_alloc ?_ _)); refine blk_far ?_ NB116_115.out _; (with_reducible repeat (first | refine blk_drewN ?_ _ | refine blk_drew ?_ | refine blk_alloc ?_ _)); exact BK116.out) Tryd.underlying63 rfl (by kernel_rfl)) rfl ?_
                                exact ⟨_, by first | rfl | (simp [errW_none, errW_some] <;> rfl) | (simp [*, errW_none, errW_some] <;> rfl), by (with_reducible repeat (first | apply Kd.R_alloc | apply Kd.R_drewN | apply Kd.R_drew)); exact Kd.R_mono (Kd.R_far (p := ⟨gb116, 3, none⟩) (Kd.R_far (p := ⟨gb116, 2, none⟩) (Kd.R_far (p := ⟨gb116, 1, none⟩) (Kd.R_far (p := ⟨gb116, 0, none⟩) (Kd.R_far (p := ⟨gb115, 1, none⟩) (Kd.R_types (Kd.R_types HO136.out BK115.out (by decide)) BK116.out (by decide)) (fun _ hk => hk.1.2) (.slice Ao77 y134.length co77)) (fun _ hk => hk.2) (.int .i64 a0_0)) (fun _ hk => hk.2) (.slice Ao77 y134.length co77)) (fun _ hk => hk.2) (.int .i64 a0_2)) (fun _ hk => hk.2) (.bool a0_3)) (fun _ hk => hk.1.1), by repeat (first | (with_reducible first | exact HB.out | apply below_alloc | apply pw_below_drewN | apply below_drew1 | refine below_set ?_ GE115.out | refine below_set ?_ GE116.out) | exact HB.out), by repeat (first | (with_reducible first | exact HK.out | apply Kept.alloc | apply Kept.drewN | apply Kept.drew | refine Kept.setCell ?_ (.inr GW115.out) _ | refine Kept.setCell ?_ (.inr GW116.out) _) | exact HK.out)⟩
                            · rw [if_neg c64] at H
                              have c64b0 : decide (1 ≤ t129) = false := decide_eq_false c64
                              clear c64
                              simp only [Option.some.injEq, Prod.mk.injEq] at H
                              obtain ⟨rfl, rfl, rfl, rfl, rfl⟩ := H
                              obtain ⟨Ao80, co80, eo80⟩ := Kd.R_slice HO_6.out
                              subst eo80
                              have p128 : 0 ≤ (1 : Int) := (by omega)
                              have q128 : 1 < (t117.length : Int) := of_decide_eq_true (by first | (with_reducible assumption) | assumption)
                              obtain ⟨ad128, e128, hx128_0⟩ := Kd.at_string (Kd.R_reads' HO_6.out).2.2 1 p128 q128
                              cases e128
                              (try simp only [show (1 : Int).toNat = 1 from rfl, Nat.reduceMul, Nat.reduceEqDiff, Go.Addr.add, ↓reduceIte] at hx128_0)
                              have qi128 : (1 < t117.length) = True := eq_true (by omega)
                              (try rw [show ((1 : Int)).toNat = 1 from rfl] at hx128_0)
                              replace p128 := eq_true p128
                              replace q128 := eq_true q128
                              have hnb81 := NB115_116.out
                              have hnc81 := NB116_115.out
                              have hcz82_0 : wc.cell? ⟨gb115, 0, none⟩ = some (.int .i64 a0_0) := (blk_cell BK115.out 0).trans rfl
                              have hcz82_1 : wc.cell? ⟨gb115, 1, none⟩ = some (.slice Ao5 l0_1.length co5) := (blk_cell BK115.out 1).trans rfl
                              have hcz82_2 : wc.cell? ⟨gb115, 2, none⟩ = some (.int .i64 a0_2) := (blk_cell BK115.out 2).trans rfl
                              have hcz82_3 : wc.cell? ⟨gb115, 3, none⟩ = some (.bool a0_3) := (blk_cell BK115.out 3).trans rfl
                              have hfz82_0 := blk_frozen BK115.out 0
                              have hfz82_1 := blk_frozen BK115.out 1
                              have hfz82_2 := blk_frozen BK115.out 2
                              have hfz82_3 := blk_frozen BK115.out 3
                              go_wp2_with (first | (go_at_call 20; (with_reducible refine (postroadref05_Number.calls kj42 (rdOf ByteArray.empty t117 1) a0_0 t129 _ A58.out).mono ?_); rintro e w' ⟨rfl, ⟨nd, rfl⟩⟩; (try first | exact ⟨rfl, _, World.drewN_drewN _ _ _⟩ | exact ⟨rfl, _, Eq.trans (World.drewN_drewN _ _ _) (congrArg (World.drewN _) (Nat.add_assoc _ _ _))⟩); have p130 : 0 ≤ (2 : Int) := (by omega); have q130 : 2 < (t117.length : Int) := of_decide_eq_true (by first | (with_reducible assumption) | assumption); obtain ⟨ad130, e130, hx130_0⟩ := Kd.at_string (Kd.R_reads' HO_6.out).2.2 2 p130 q130; obtain rfl : ad128 = ad130 := (by injection e130); (try simp only [show (2 : Int).toNat = 2 from rfl, Nat.reduceMul, Nat.reduceEqDiff, Go.Addr.add, ↓reduceIte] at hx130_0); have qi130 : (2 < t117.length) = True := eq_true (by omega); (try rw [show ((2 : Int)).toNat = 2 from rfl] at hx130_0); replace p130 := eq_true p130; replace q130 := eq_true q130) | (go_at_call 20; (with_reducible refine (postroadref05_Number.calls kj42 (rdOf ByteArray.empty t117 2) a0_0 t131 _ A60.out).mono ?_); rintro e w' ⟨rfl, ⟨nd, rfl⟩⟩; (try first | exact ⟨rfl, _, World.drewN_drewN _ _ _⟩ | exact ⟨rfl, _, Eq.trans (World.drewN_drewN _ _ _) (congrArg (World.drewN _) (Nat.add_assoc _ _ _))⟩); have p132 : 0 ≤ (3 : Int) := (by omega); have q132 : 3 < (t117.length : Int) := of_decide_eq_true (by first | (with_reducible assumption) | assumption); obtain ⟨ad132, e132, hx132_0⟩ := Kd.at_string (Kd.R_reads' HO_6.out).2.2 3 p132 q132; obtain rfl : ad128 = ad132 := (by injection e132); (try simp only [show (3 : Int).toNat = 3 from rfl, Nat.reduceMul, Nat.reduceEqDiff, Go.Addr.add, ↓reduceIte] at hx132_0); have qi132 : (3 < t117.length) = True := eq_true (by omega); (try rw [show ((3 : Int)).toNat = 3 from rfl] at hx132_0); replace p132 := eq_true p132; replace q132 := eq_true q132) | (go_at_call 20; (with_reducible refine (postroadref05_Number.calls kj42 (rdOf ByteArray.empty t117 3) 2147483648 t133 _ A62.out).mono ?_); rintro e w' ⟨rfl, ⟨nd, rfl⟩⟩; (try first | exact ⟨rfl, _, World.drewN_drewN _ _ _⟩ | exact ⟨rfl, _, Eq.trans (World.drewN_drewN _ _ _) (congrArg (World.drewN _) (Nat.add_assoc _ _ _))⟩)) | ((with_reducible refine gate_builtin (b := .append) (xs := #[.tmp 107, .tmp 114]) rfl ?_); (try (refine gate_guard (by rfl) ?_; dsimp only)); at_builtin; refine Kd.R_append k50 (w0 := w0) w0.heap.size rfl (.tmp 107) (.tmp 114) 23 50 (.agg #[(.int .i64 0), (.int .i64 0), (.int .i64 0)]) 24 rfl Tryd.underlying23 info50 rfl (by decide) (by omega) (.slice Ao5 l0_1.length co5) l0_1 (⟨wrap64 (t129 - 1), wrap64 (t131 - 1), t133⟩ : S50) [.int .i64 (wrap64 (t129 - 1)), .int .i64 (wrap64 (t131 - 1)), .int .i64 t133] (fun k_ => (P0_1_ k_ ∨ w.heap.size ≤ k_)) (fun _ => False) rfl rfl ?aP (fun _ hk => hk.elim) ?aF ?aO ?aB ?aS ?aL ?_; (case aP => exact k50_mkM _ _ _ (⟨wrap64 (t129 - 1), wrap64 (t131 - 1), t133⟩ : S50)); (case aB => exact (by repeat (first | (with_reducible first | exact HB.out | apply below_alloc | apply pw_below_drewN | apply below_drew1 | refine below_set ?_ GE115.out | refine below_set ?_ GE116.out) | exact HB.out))); (case aF => exact (fun k_ hk => (.inr (Nat.le_trans (by first | exact HK.out.1 | exact (show Kept w _ (fun k_ => P0_1_ k_) from by repeat (first | (with_reducible first | exact HK.out | apply Kept.alloc | apply Kept.drewN | apply Kept.drew | refine Kept.setCell ?_ (.inr GW115.out) _ | refine Kept.setCell ?_ (.inr GW116.out) _) | exact HK.out)).1) hk)))); (case aO => exact (by (with_reducible repeat (first | apply Kd.R_alloc | apply Kd.R_drewN | apply Kd.R_drew)); exact HO_116001.out)); (case aS => exact (below_size (by repeat (first | (with_reducible first | exact HB.out | apply below_alloc | apply pw_below_drewN | apply below_drew1 | refine below_set ?_ GE115.out | refine below_set ?_ GE116.out) | exact HB.out)))); (case aL => have := LMc63.out; omega); intro v135 w83 ho hb hg hat; rw [← Ny134.out] at ho; have n0_ := Aside0.mk (Kd.R_over' (by (with_reducible repeat (first | apply Kd.R_alloc | apply Kd.R_drewN | apply Kd.R_drew)); exact HO_6.out) (Kd.R_typed (by (with_reducible repeat (first | apply Kd.R_alloc | apply Kd.R_drewN | apply Kd.R_drew)); exact HO_116001.out)) (by decide) hg); have n1_ := Aside0.mk (blk_grown (g := gb115) (o := .cells #[.int .i64 a0_0, .slice Ao5 l0_1.length co5, .int .i64 a0_2, .bool a0_3] 63 (0, 0)) (by (with_reducible repeat (first | refine blk_drewN ?_ _ | refine blk_drew ?_ | refine blk_alloc ?_ _)); exact BK115.out) hg (Kd.R_ne HO_116001.out BK115.out (by decide))); have n2_ := Aside0.mk (blk_grown (g := gb116) (o := .cells #[.int .i64 0, .slice none 0 0, .int .i64 0, .bool false] 63 (0, 0)) (by (with_reducible repeat (first | refine blk_drewN ?_ _ | refine blk_drew ?_ | refine blk_alloc ?_ _)); exact BK116.out) hg (Kd.R_ne HO_116001.out BK116.out (by decide))); have n3_ := Aside0.mk (hb); have n4_ := Aside0.mk (Kept.of_grown (S := (fun k_ => P0_1_ k_)) hg (by repeat (first | (with_reducible first | exact HK.out | apply Kept.alloc | apply Kept.drewN | apply Kept.drew | refine Kept.setCell ?_ (.inr GW115.out) _ | refine Kept.setCell ?_ (.inr GW116.out) _) | exact HK.out)) (fun k_ e_ => (HO_116001.out.1 k_ e_))); have n5_ := Aside0.mk (ho); clear HO_6; clear BK115; clear BK116; clear HB; clear HK; clear HO_116001; have HO_6 := n0_; have BK115 := n1_; have BK116 := n2_; have HB := n3_; have HK := n4_; have HO136 := n5_; clear n0_ n1_ n2_ n3_ n4_ n5_; clear ho hb hg hat; obtain ⟨Ao84, co84, eo84⟩ := Kd.R_slice HO136.out; subst eo84; have hcz85_0 : w83.cell? ⟨gb115, 0, none⟩ = some (.int .i64 a0_0) := (blk_cell BK115.out 0).trans rfl; have hcz85_1 : w83.cell? ⟨gb115, 1, none⟩ = some (.slice Ao5 l0_1.length co5) := (blk_cell BK115.out 1).trans rfl; have hcz85_2 : w83.cell? ⟨gb115, 2, none⟩ = some (.int .i64 a0_2) := (blk_cell BK115.out 2).trans rfl; have hcz85_3 : w83.cell? ⟨gb115, 3, none⟩ = some (.bool a0_3) := (blk_cell BK115.out 3).trans rfl; have hfz85_0 := blk_frozen BK115.out 0; have hfz85_1 := blk_frozen BK115.out 1; have hfz85_2 := blk_frozen BK115.out 2; have hfz85_3 := blk_frozen BK115.out 3; have hcz86_0 : w83.cell? ⟨gb116, 0, none⟩ = some (.int .i64 0) := (blk_cell BK116.out 0).trans rfl; have hcz86_1 : w83.cell? ⟨gb116, 1, none⟩ = some (.slice none 0 0) := (blk_cell BK116.out 1).trans rfl; have hcz86_2 : w83.cell? ⟨gb116, 2, none⟩ = some (.int .i64 0) := (blk_cell BK116.out 2).trans rfl; have hcz86_3 : w83.cell? ⟨gb116, 3, none⟩ = some (.bool false) := (blk_cell BK116.out 3).trans rfl; have hfz86_0 := blk_frozen BK116.out 0; have hfz86_1 := blk_frozen BK116.out 1; have hfz86_2 := blk_frozen BK116.out 2; have hfz86_3 := blk_frozen BK116.out 3))
                              repeat (go_quiet (first | (go_at_call 20; (with_reducible refine (postroadref05_Number.calls kj42 (rdOf ByteArray.empty t117 1) a0_0 t129 _ A58.out).mono ?_); rintro e w' ⟨rfl, ⟨nd, rfl⟩⟩; (try first | exact ⟨rfl, _, World.drewN_drewN _ _ _⟩ | exact ⟨rfl, _, Eq.trans (World.drewN_drewN _ _ _) (congrArg (World.drewN _) (Nat.add_assoc _ _ _))⟩); have p130 : 0 ≤ (2 : Int) := (by omega); have q130 : 2 < (t117.length : Int) := of_decide_eq_true (by first | (with_reducible assumption) | assumption); obtain ⟨ad130, e130, hx130_0⟩ := Kd.at_string (Kd.R_reads' HO_6.out).2.2 2 p130 q130; obtain rfl : ad128 = ad130 := (by injection e130); (try simp only [show (2 : Int).toNat = 2 from rfl, Nat.reduceMul, Nat.reduceEqDiff, Go.Addr.add, ↓reduceIte] at hx130_0); have qi130 : (2 < t117.length) = True := eq_true (by omega); (try rw [show ((2 : Int)).toNat = 2 from rfl] at hx130_0); replace p130 := eq_true p130; replace q130 := eq_true q130) | (go_at_call 20; (with_reducible refine (postroadref05_Number.calls kj42 (rdOf ByteArray.empty t117 2) a0_0 t131 _ A60.out).mono ?_); rintro e w' ⟨rfl, ⟨nd, rfl⟩⟩; (try first | exact ⟨rfl, _, World.drewN_drewN _ _ _⟩ | exact ⟨rfl, _, Eq.trans (World.drewN_drewN _ _ _) (congrArg (World.drewN _) (Nat.add_assoc _ _ _))⟩); have p132 : 0 ≤ (3 : Int) := (by omega); have q132 : 3 < (t117.length : Int) := of_decide_eq_true (by first | (with_reducible assumption) | assumption); obtain ⟨ad132, e132, hx132_0⟩ := Kd.at_string (Kd.R_reads' HO_6.out).2.2 3 p132 q132; obtain rfl : ad128 = ad132 := (by injection e132); (try simp only [show (3 : Int).toNat = 3 from rfl, Nat.reduceMul, Nat.reduceEqDiff, Go.Addr.add, ↓reduceIte] at hx132_0); have qi132 : (3 < t117.length) = True := eq_true (by omega); (try rw [show ((3 : Int)).toNat = 3 from rfl] at hx132_0); replace p132 := eq_true p132; replace q132 := eq_true q132) | (go_at_call 20; (with_reducible refine (postroadref05_Number.calls kj42 (rdOf ByteArray.empty t117 3) 2147483648 t133 _ A62.out).mono ?_); rintro e w' ⟨rfl, ⟨nd, rfl⟩⟩; (try first | exact ⟨rfl, _, World.drewN_drewN _ _ _⟩ | exact ⟨rfl, _, Eq.trans (World.drewN_drewN _ _ _) (congrArg (World.drewN _) (Nat.add_assoc _ _ _))⟩)) | ((with_reducible refine gate_builtin (b := .append) (xs := #[.tmp 107, .tmp 114]) rfl ?_); (try (refine gate_guard (by rfl) ?_; dsimp only)); at_builtin; refine Kd.R_append k50 (w0 := w0) w0.heap.size rfl (.tmp 107) (.tmp 114) 23 50 (.agg #[(.int .i64 0), (.int .i64 0), (.int .i64 0)]) 24 rfl Tryd.underlying23 info50 rfl (by decide) (by omega) (.slice Ao5 l0_1.length co5) l0_1 (⟨wrap64 (t129 - 1), wrap64 (t131 - 1), t133⟩ : S50) [.int .i64 (wrap64 (t129 - 1)), .int .i64 (wrap64 (t131 - 1)), .int .i64 t133] (fun k_ => (P0_1_ k_ ∨ w.heap.size ≤ k_)) (fun _ => False) rfl rfl ?aP (fun _ hk => hk.elim) ?aF ?aO ?aB ?aS ?aL ?_; (case aP => exact k50_mkM _ _ _ (⟨wrap64 (t129 - 1), wrap64 (t131 - 1), t133⟩ : S50)); (case aB => exact (by repeat (first | (with_reducible first | exact HB.out | apply below_alloc | apply pw_below_drewN | apply below_drew1 | refine below_set ?_ GE115.out | refine below_set ?_ GE116.out) | exact HB.out))); (case aF => exact (fun k_ hk => (.inr (Nat.le_trans (by first | exact HK.out.1 | exact (show Kept w _ (fun k_ => P0_1_ k_) from by repeat (first | (with_reducible first | exact HK.out | apply Kept.alloc | apply Kept.drewN | apply Kept.drew | refine Kept.setCell ?_ (.inr GW115.out) _ | refine Kept.setCell ?_ (.inr GW116.out) _) | exact HK.out)).1) hk)))); (case aO => exact (by (with_reducible repeat (first | apply Kd.R_alloc | apply Kd.R_drewN | apply Kd.R_drew)); exact HO_116001.out)); (case aS => exact (below_size (by repeat (first | (with_reducible first | exact HB.out | apply below_alloc | apply pw_below_drewN | apply below_drew1 | refine below_set ?_ GE115.out | refine below_set ?_ GE116.out) | exact HB.out)))); (case aL => have := LMc63.out; omega); intro v135 w83 ho hb hg hat; rw [← Ny134.out] at ho; have n0_ := Aside0.mk (Kd.R_over' (by (with_reducible repeat (first | apply Kd.R_alloc | apply Kd.R_drewN | apply Kd.R_drew)); exact HO_6.out) (Kd.R_typed (by (with_reducible repeat (first | apply Kd.R_alloc | apply Kd.R_drewN | apply Kd.R_drew)); exact HO_116001.out)) (by decide) hg); have n1_ := Aside0.mk (blk_grown (g := gb115) (o := .cells #[.int .i64 a0_0, .slice Ao5 l0_1.length co5, .int .i64 a0_2, .bool a0_3] 63 (0, 0)) (by (with_reducible repeat (first | refine blk_drewN ?_ _ | refine blk_drew ?_ | refine blk_alloc ?_ _)); exact BK115.out) hg (Kd.R_ne HO_116001.out BK115.out (by decide))); have n2_ := Aside0.mk (blk_grown (g := gb116) (o := .cells #[.int .i64 0, .slice none 0 0, .int .i64 0, .bool false] 63 (0, 0)) (by (with_reducible repeat (first | refine blk_drewN ?_ _ | refine blk_drew ?_ | refine blk_alloc ?_ _)); exact BK116.out) hg (Kd.R_ne HO_116001.out BK116.out (by decide))); have n3_ := Aside0.mk (hb); have n4_ := Aside0.mk (Kept.of_grown (S := (fun k_ => P0_1_ k_)) hg (by repeat (first | (with_reducible first | exact HK.out | apply Kept.alloc | apply Kept.drewN | apply Kept.drew | refine Kept.setCell ?_ (.inr GW115.out) _ | refine Kept.setCell ?_ (.inr GW116.out) _) | exact HK.out)) (fun k_ e_ => (HO_116001.out.1 k_ e_))); have n5_ := Aside0.mk (ho); clear HO_6; clear BK115; clear BK116; clear HB; clear HK; clear HO_116001; have HO_6 := n0_; have BK115 := n1_; have BK116 := n2_; have HB := n3_; have HK := n4_; have HO136 := n5_; clear n0_ n1_ n2_ n3_ n4_ n5_; clear ho hb hg hat; obtain ⟨Ao84, co84, eo84⟩ := Kd.R_slice HO136.out; subst eo84; have hcz85_0 : w83.cell? ⟨gb115, 0, none⟩ = some (.int .i64 a0_0) := (blk_cell BK115.out 0).trans rfl; have hcz85_1 : w83.cell? ⟨gb115, 1, none⟩ = some (.slice Ao5 l0_1.length co5) := (blk_cell BK115.out 1).trans rfl; have hcz85_2 : w83.cell? ⟨gb115, 2, none⟩ = some (.int .i64 a0_2) := (blk_cell BK115.out 2).trans rfl; have hcz85_3 : w83.cell? ⟨gb115, 3, none⟩ = some (.bool a0_3) := (blk_cell BK115.out 3).trans rfl; have hfz85_0 := blk_frozen BK115.out 0; have hfz85_1 := blk_frozen BK115.out 1; have hfz85_2 := blk_frozen BK115.out 2; have hfz85_3 := blk_frozen BK115.out 3; have hcz86_0 : w83.cell? ⟨gb116, 0, none⟩ = some (.int .i64 0) := (blk_cell BK116.out 0).trans rfl; have hcz86_1 : w83.cell? ⟨gb116, 1, none⟩ = some (.slice none 0 0) := (blk_cell BK116.out 1).trans rfl; have hcz86_2 : w83.cell? ⟨gb116, 2, none⟩ = some (.int .i64 0) := (blk_cell BK116.out 2).trans rfl; have hcz86_3 : w83.cell? ⟨gb116, 3, none⟩ = some (.bool false) := (blk_cell BK116.out 3).trans rfl; have hfz86_0 := blk_frozen BK116.out 0; have hfz86_1 := blk_frozen BK116.out 1; have hfz86_2 := blk_frozen BK116.out 2; have hfz86_3 := blk_frozen BK116.out 3)); try go_wp2_with (first | (go_at_call 20; (with_reducible refine (postroadref05_Number.calls kj42 (rdOf ByteArray.empty t117 1) a0_0 t129 _ A58.out).mono ?_); rintro e w' ⟨rfl, ⟨nd, rfl⟩⟩; (try first | exact ⟨rfl, _, World.drewN_drewN _ _ _⟩ | exact ⟨rfl, _, Eq.trans (World.drewN_drewN _ _ _) (congrArg (World.drewN _) (Nat.add_assoc _ _ _))⟩); have p130 : 0 ≤ (2 : Int) := (by omega); have q130 : 2 < (t117.length : Int) := of_decide_eq_true (by first | (with_reducible assumption) | assumption); obtain ⟨ad130, e130, hx130_0⟩ := Kd.at_string (Kd.R_reads' HO_6.out).2.2 2 p130 q130; obtain rfl : ad128 = ad130 := (by injection e130); (try simp only [show (2 : Int).toNat = 2 from rfl, Nat.reduceMul, Nat.reduceEqDiff, Go.Addr.add, ↓reduceIte] at hx130_0); have qi130 : (2 < t117.length) = True := eq_true (by omega); (try rw [show ((2 : Int)).toNat = 2 from rfl] at hx130_0); replace p130 := eq_true p130; replace q130 := eq_true q130) | (go_at_call 20; (with_reducible refine (postroadref05_Number.calls kj42 (rdOf ByteArray.empty t117 2) a0_0 t131 _ A60.out).mono ?_); rintro e w' ⟨rfl, ⟨nd, rfl⟩⟩; (try first | exact ⟨rfl, _, World.drewN_drewN _ _ _⟩ | exact ⟨rfl, _, Eq.trans (World.drewN_drewN _ _ _) (congrArg (World.drewN _) (Nat.add_assoc _ _ _))⟩); have p132 : 0 ≤ (3 : Int) := (by omega); have q132 : 3 < (t117.length : Int) := of_decide_eq_true (by first | (with_reducible assumption) | assumption); obtain ⟨ad132, e132, hx132_0⟩ := Kd.at_string (Kd.R_reads' HO_6.out).2.2 3 p132 q132; obtain rfl : ad128 = ad132 := (by injection e132); (try simp only [show (3 : Int).toNat = 3 from rfl, Nat.reduceMul, Nat.reduceEqDiff, Go.Addr.add, ↓reduceIte] at hx132_0); have qi132 : (3 < t117.length) = True := eq_true (by omega); (try rw [show ((3 : Int)).toNat = 3 from rfl] at hx132_0); replace p132 := eq_true p132; replace q132 := eq_true q132) | (go_at_call 20; (with_reducible refine (postroadref05_Number.calls kj42 (rdOf ByteArray.empty t117 3) 2147483648 t133 _ A62.out).mono ?_); rintro e w' ⟨rfl, ⟨nd, rfl⟩⟩; (try first | exact ⟨rfl, _, World.drewN_drewN _ _ _⟩ | exact ⟨rfl, _, Eq.trans (World.drewN_drewN _ _ _) (congrArg (World.drewN _) (Nat.add_assoc _ _ _))⟩)) | ((with_reducible refine gate_builtin (b := .append) (xs := #[.tmp 107, .tmp 114]) rfl ?_); (try (refine gate_guard (by rfl) ?_; dsimp only)); at_builtin; refine Kd.R_append k50 (w0 := w0) w0.heap.size rfl (.tmp 107) (.tmp 114) 23 50 (.agg #[(.int .i64 0), (.int .i64 0), (.int .i64 0)]) 24 rfl Tryd.underlying23 info50 rfl (by decide) (by omega) (.slice Ao5 l0_1.length co5) l0_1 (⟨wrap64 (t129 - 1), wrap64 (t131 - 1), t133⟩ : S50) [.int .i64 (wrap64 (t129 - 1)), .int .i64 (wrap64 (t131 - 1)), .int .i64 t133] (fun k_ => (P0_1_ k_ ∨ w.heap.size ≤ k_)) (fun _ => False) rfl rfl ?aP (fun _ hk => hk.elim) ?aF ?aO ?aB ?aS ?aL ?_; (case aP => exact k50_mkM _ _ _ (⟨wrap64 (t129 - 1), wrap64 (t131 - 1), t133⟩ : S50)); (case aB => exact (by repeat (first | (with_reducible first | exact HB.out | apply below_alloc | apply pw_below_drewN | apply below_drew1 | refine below_set ?_ GE115.out | refine below_set ?_ GE116.out) | exact HB.out))); (case aF => exact (fun k_ hk => (.inr (Nat.le_trans (by first | exact HK.out.1 | exact (show Kept w _ (fun k_ => P0_1_ k_) from by repeat (first | (with_reducible first | exact HK.out | apply Kept.alloc | apply Kept.drewN | apply Kept.drew | refine Kept.setCell ?_ (.inr GW115.out) _ | refine Kept.setCell ?_ (.inr GW116.out) _) | exact HK.out)).1) hk)))); (case aO => exact (by (with_reducible repeat (first | apply Kd.R_alloc | apply Kd.R_drewN | apply Kd.R_drew)); exact HO_116001.out)); (case aS => exact (below_size (by repeat (first | (with_reducible first | exact HB.out | apply below_alloc | apply pw_below_drewN | apply below_drew1 | refine below_set ?_ GE115.out | refine below_set ?_ GE116.out) | exact HB.out)))); (case aL => have := LMc63.out; omega); intro v135 w83 ho hb hg hat; rw [← Ny134.out] at ho; have n0_ := Aside0.mk (Kd.R_over' (by (with_reducible repeat (first | apply Kd.R_alloc | apply Kd.R_drewN | apply Kd.R_drew)); exact HO_6.out) (Kd.R_typed (by (with_reducible repeat (first | apply Kd.R_alloc | apply Kd.R_drewN | apply Kd.R_drew)); exact HO_116001.out)) (by decide) hg); have n1_ := Aside0.mk (blk_grown (g := gb115) (o := .cells #[.int .i64 a0_0, .slice Ao5 l0_1.length co5, .int .i64 a0_2, .bool a0_3] 63 (0, 0)) (by (with_reducible repeat (first | refine blk_drewN ?_ _ | refine blk_drew ?_ | refine blk_alloc ?_ _)); exact BK115.out) hg (Kd.R_ne HO_116001.out BK115.out (by decide))); have n2_ := Aside0.mk (blk_grown (g := gb116) (o := .cells #[.int .i64 0, .slice none 0 0, .int .i64 0, .bool false] 63 (0, 0)) (by (with_reducible repeat (first | refine blk_drewN ?_ _ | refine blk_drew ?_ | refine blk_alloc ?_ _)); exact BK116.out) hg (Kd.R_ne HO_116001.out BK116.out (by decide))); have n3_ := Aside0.mk (hb); have n4_ := Aside0.mk (Kept.of_grown (S := (fun k_ => P0_1_ k_)) hg (by repeat (first | (with_reducible first | exact HK.out | apply Kept.alloc | apply Kept.drewN | apply Kept.drew | refine Kept.setCell ?_ (.inr GW115.out) _ | refine Kept.setCell ?_ (.inr GW116.out) _) | exact HK.out)) (fun k_ e_ => (HO_116001.out.1 k_ e_))); have n5_ := Aside0.mk (ho); clear HO_6; clear BK115; clear BK116; clear HB; clear HK; clear HO_116001; have HO_6 := n0_; have BK115 := n1_; have BK116 := n2_; have HB := n3_; have HK := n4_; have HO136 := n5_; clear n0_ n1_ n2_ n3_ n4_ n5_; clear ho hb hg hat; obtain ⟨Ao84, co84, eo84⟩ := Kd.R_slice HO136.out; subst eo84; have hcz85_0 : w83.cell? ⟨gb115, 0, none⟩ = some (.int .i64 a0_0) := (blk_cell BK115.out 0).trans rfl; have hcz85_1 : w83.cell? ⟨gb115, 1, none⟩ = some (.slice Ao5 l0_1.length co5) := (blk_cell BK115.out 1).trans rfl; have hcz85_2 : w83.cell? ⟨gb115, 2, none⟩ = some (.int .i64 a0_2) := (blk_cell BK115.out 2).trans rfl; have hcz85_3 : w83.cell? ⟨gb115, 3, none⟩ = some (.bool a0_3) := (blk_cell BK115.out 3).trans rfl; have hfz85_0 := blk_frozen BK115.out 0; have hfz85_1 := blk_frozen BK115.out 1; have hfz85_2 := blk_frozen BK115.out 2; have hfz85_3 := blk_frozen BK115.out 3; have hcz86_0 : w83.cell? ⟨gb116, 0, none⟩ = some (.int .i64 0) := (blk_cell BK116.out 0).trans rfl; have hcz86_1 : w83.cell? ⟨gb116, 1, none⟩ = some (.slice none 0 0) := (blk_cell BK116.out 1).trans rfl; have hcz86_2 : w83.cell? ⟨gb116, 2, none⟩ = some (.int .i64 0) := (blk_cell BK116.out 2).trans rfl; have hcz86_3 : w83.cell? ⟨gb116, 3, none⟩ = some (.bool false) := (blk_cell BK116.out 3).trans rfl; have hfz86_0 := blk_frozen BK116.out 0; have hfz86_1 := blk_frozen BK116.out 1; have hfz86_2 := blk_frozen BK116.out 2; have hfz86_3 := blk_frozen BK116.out 3)))
                              refine bodyPost_ret (results_ct rfl _ _ gb116 63 #[.int .i64 a0_0, .slice Ao84 y134.length co84, .int .i64 a0_2, .bool a0_3] (0, 0) _ rfl (by (with_reducible repeat (first | refine blk_drewN ?_ _ | refine blk_drew ?_ | refine blk_alloc ?_ _)); refine blk_put (cs := #[.int .i64 a0_0, .slice Ao84 y134.length co84, .int .i64 a0_2, .bool false]) ?_ 3 _ rfl; (with_reducible repeat (first | refine blk_drewN ?_ _ | refine blk_drew ?_ | refine blk_alloc ?_ _)); refine blk_put (cs := #[.int .i64 a0_0, .slice Ao84 y134.length co84, .int .i64 0, .bool false]) ?_ 2 _ rfl; (with_reducible repeat (first | refine blk_drewN ?_ _ | refine blk_drew ?_ | refine blk_alloc ?_ _)); refine blk_put (cs := #[.int .i64 a0_0, .slice none 0 0, .int .i64 0, .bool false]) ?_ 1 _ rfl; (with_reducible repeat (first | refine blk_drewN ?_ _ | refine blk_drew ?_ | refine blk_alloc ?_ _)); refine blk_put (cs := #[.int .i64 0, .slice none 0 0, .int .i64 0, .bool false]) ?_ 0 _ rfl; (with_reducible repeat (first | refine blk_drewN ?_ _ | refine blk_drew ?_ | refine blk_alloc ?_ _)); refine blk_far ?_ NB116_115.out _; (with_reducible repeat (first | refine blk_drewN ?_ _ | refine blk_drew ?_ | refine blk_alloc ?_ _)); exact BK116.out) Tryd.underlying63 rfl (by kernel_rfl)) rfl ?_
                              exact ⟨_, by first | rfl | (simp [errW_none, errW_some] <;> rfl) | (simp [*, errW_none, errW_some] <;> rfl), by (with_reducible repeat (first | apply Kd.R_alloc | apply Kd.R_drewN | apply Kd.R_drew)); exact Kd.R_mono (Kd.R_far (p := ⟨gb116, 3, none⟩) (Kd.R_far (p := ⟨gb116, 2, none⟩) (Kd.R_far (p := ⟨gb116, 1, none⟩) (Kd.R_far (p := ⟨gb116, 0, none⟩) (Kd.R_far (p := ⟨gb115, 1, none⟩) (Kd.R_types (Kd.R_types HO136.out BK115.out (by decide)) BK116.out (by decide)) (fun _ hk => hk.1.2) (.slice Ao84 y134.length co84)) (fun _ hk => hk.2) (.int .i64 a0_0)) (fun _ hk => hk.2) (.slice Ao84 y134.length co84)) (fun _ hk => hk.2) (.int .i64 a0_2)) (fun _ hk => hk.2) (.bool a0_3)) (fun _ hk => hk.1.1), by repeat (first | (with_reducible first | exact HB.out | apply below_alloc | apply pw_below_drewN | apply below_drew1 | refine below_set ?_ GE115.out | refine below_set ?_ GE116.out) | exact HB.out), by repeat (first | (with_reducible first | exact HK.out | apply Kept.alloc | apply Kept.drewN | apply Kept.drew | refine Kept.setCell ?_ (.inr GW115.out) _ | refine Kept.setCell ?_ (.inr GW116.out) _) | exact HK.out)⟩
                          · rw [if_neg c63] at H
                            exact absurd H (by simp)
                        · rw [if_neg c61] at H
                          exact absurd H (by simp)
                      · rw [if_neg c59] at H
                        exact absurd H (by simp)
                    · rw [if_neg c57] at H
                      exact absurd H (by simp)
                  · replace c56 := Bool.eq_false_iff.mpr c56
                    subst c56
                    have H1 : (some (a0_0, l0_1, a0_2, a0_3, false)) = some (r1, r2, r3, r4, r5) := by rw [if_neg (show ¬ (false = true) by decide)] at H; exact H
                    clear H
                    have H := H1
                    clear H1
                    simp only [Option.some.injEq, Prod.mk.injEq] at H
                    obtain ⟨rfl, rfl, rfl, rfl, rfl⟩ := H
                    have hnb87 := NB115_116.out
                    have hnc87 := NB116_115.out
                    have hcz88_0 : wc.cell? ⟨gb115, 0, none⟩ = some (.int .i64 a0_0) := (blk_cell BK115.out 0).trans rfl
                    have hcz88_1 : wc.cell? ⟨gb115, 1, none⟩ = some (.slice Ao5 l0_1.length co5) := (blk_cell BK115.out 1).trans rfl
                    have hcz88_2 : wc.cell? ⟨gb115, 2, none⟩ = some (.int .i64 a0_2) := (blk_cell BK115.out 2).trans rfl
                    have hcz88_3 : wc.cell? ⟨gb115, 3, none⟩ = some (.bool a0_3) := (blk_cell BK115.out 3).trans rfl
                    have hfz88_0 := blk_frozen BK115.out 0
                    have hfz88_1 := blk_frozen BK115.out 1
                    have hfz88_2 := blk_frozen BK115.out 2
                    have hfz88_3 := blk_frozen BK115.out 3
                    have hcz89_0 : wc.cell? ⟨gb116, 0, none⟩ = some (.int .i64 0) := (blk_cell BK116.out 0).trans rfl
                    have hcz89_1 : wc.cell? ⟨gb116, 1, none⟩ = some (.slice none 0 0) := (blk_cell BK116.out 1).trans rfl
                    have hcz89_2 : wc.cell? ⟨gb116, 2, none⟩ = some (.int .i64 0) := (blk_cell BK116.out 2).trans rfl
                    have hcz89_3 : wc.cell? ⟨gb116, 3, none⟩ = some (.bool false) := (blk_cell BK116.out 3).trans rfl
                    have hfz89_0 := blk_frozen BK116.out 0
                    have hfz89_1 := blk_frozen BK116.out 1
                    have hfz89_2 := blk_frozen BK116.out 2
                    have hfz89_3 := blk_frozen BK116.out 3
                    go_wp2
                    repeat (go_quiet (fail); try go_wp2)
                    refine bodyPost_ret (results_ct rfl _ _ gb116 63 #[.int .i64 a0_0, .slice Ao5 l0_1.length co5, .int .i64 a0_2, .bool a0_3] (0, 0) _ rfl (by (with_reducible repeat (first | refine blk_drewN ?_ _ | refine blk_drew ?_ | refine blk_alloc ?_ _)); refine blk_put (cs := #[.int .i64 a0_0, .slice Ao5 l0_1.length co5, .int .i64 a0_2, .bool false]) ?_ 3 _ rfl; (with_reducible repeat (first | refine blk_drewN ?_ _ | refine blk_drew ?_ | refine blk_alloc ?_ _)); refine blk_put (cs := #[.int .i64 a0_0, .slice Ao5 l0_1.length co5, .int .i64 0, .bool false]) ?_ 2 _ rfl; (with_reducible repeat (first | refine blk_drewN ?_ _ | refine blk_drew ?_ | refine blk_alloc ?_ _)); refine blk_put (cs := #[.int .i64 a0_0, .slice none 0 0, .int .i64 0, .bool false]) ?_ 1 _ rfl; (with_reducible repeat (first | refine blk_drewN ?_ _ | refine blk_drew ?_ | refine blk_alloc ?_ _)); refine blk_put (cs := #[.int .i64 0, .slice none 0 0, .int .i64 0, .bool false]) ?_ 0 _ rfl; (with_reducible repeat (first | refine blk_drewN ?_ _ | refine blk_drew ?_ | refine blk_alloc ?_ _)); exact BK116.out) Tryd.underlying63 rfl (by kernel_rfl)) rfl ?_
                    exact ⟨_, by first | rfl | (simp [errW_none, errW_some] <;> rfl) | (simp [*, errW_none, errW_some] <;> rfl), by (with_reducible repeat (first | apply Kd.R_alloc | apply Kd.R_drewN | apply Kd.R_drew)); exact Kd.R_mono (Kd.R_far (p := ⟨gb116, 3, none⟩) (Kd.R_far (p := ⟨gb116, 2, none⟩) (Kd.R_far (p := ⟨gb116, 1, none⟩) (Kd.R_far (p := ⟨gb116, 0, none⟩) (Kd.R_types HO_116001.out BK116.out (by decide)) (fun _ hk => hk.2) (.int .i64 a0_0)) (fun _ hk => hk.2) (.slice Ao5 l0_1.length co5)) (fun _ hk => hk.2) (.int .i64 a0_2)) (fun _ hk => hk.2) (.bool a0_3)) (fun _ hk => hk.1), by repeat (first | (with_reducible first | exact HB.out | apply below_alloc | apply pw_below_drewN | apply below_drew1 | refine below_set ?_ GE115.out | refine below_set ?_ GE116.out) | exact HB.out), by repeat (first | (with_reducible first | exact HK.out | apply Kept.alloc | apply Kept.drewN | apply Kept.drew | refine Kept.setCell ?_ (.inr GW115.out) _ | refine Kept.setCell ?_ (.inr GW116.out) _) | exact HK.out)⟩

end Go.Proofs.YtegikndkokemjaaDoor.PAll
