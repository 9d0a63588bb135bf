import Derived.Test.YtfkejflmhidnaaaGreatQMtP
import Derived.Test.YtfkejflmhidnaaaGreatQCmB
import Derived.Test.YtfkejflmhidnaaaGreatQKnE
import Derived.Test.YtfkejflmhidnaaaGreatQRcP
import Derived.WalkSpells
set_option linter.all false
namespace Go.Proofs.YtfkejflmhidnaaaGreat.PAll
open RowKit YtfkejflmhidnaaaGreatW.PrintWords YtfkejflmhidnaaaGreatW.PrintLast YtfkejflmhidnaaaGreatW.PrintMore
open Hp hiding Good
theorem where_walk (w : World) (hb n : Nat) (h : HierP) (wm : Int) (H : HierRep w hb n h) (hok : HOk n wm h) (s t : Int) :
  Calls Tryz.prog 38 #[.pointer (some ⟨hb, 0, none⟩), .int .i64 s, .int .i64 t] w fun r w' => r = .returned (.tuple #[.int .i64 (whereP n h s t).1, .int .i64 (whereP n h s t).2]) ∧ Below w.heap.size w w' := by
 have HH := Lib.hid H
 have HOK := Lib.hid hok
 have HF := Lib.hid (forward_walk w hb n h wm H hok s)
 have HP : Hid (whereP n h s t = meetP (aboveP n h s false) (aboveP n h t true)) := Lib.hid rfl
 have HX : Hid (∃ p, whereP n h s t = p) := Lib.hid ⟨_, rfl⟩
 obtain ⟨p, hp⟩ := HX.out
 rw [hp] at HP ⊢
 clear H hok HX hp
 generalize aboveP n h s false = a at *
 go_enter Tryz.func38, Tryz.ntmps38
 go_wp2_with fail
 refine HF.out.mono ?_
 rintro e w1 ⟨v1, rfl, hR1, hB1⟩
 obtain ⟨A1, c1, rfl, hc1, hC1⟩ := Kd.R_reads hR1
 have HC1 := Lib.hid hC1
 have HB1 := Lib.hid hB1
 have HK := Lib.hid (back_walk w1 hb n h wm (HH.out.below hB1) HOK.out t)
 clear hR1 hC1 hB1 HF HH HOK
 generalize aboveP n h t true = b at *
 go_wp2_with fail
 refine HK.out.mono ?_
 rintro e w2 ⟨v2, rfl, hR2, hB2⟩
 obtain ⟨A2, c2, rfl, hc2, hC2⟩ := Kd.R_reads hR2
 have HM := Lib.hid (meet_walk w2 a b A1 A2 c1 c2 hc1 hc2 (Kd.C_below HC1.out hB2) hC2)
 have HB2 := Lib.hid (HB1.out.trans (hB2.mono HB1.out.size))
 clear hR2 hC2 hB2 HK HC1 HB1
 go_wp2_with fail
 refine HM.out.mono ?_
 rintro e w3 ⟨rfl, hB3⟩
 rw [← HP.out]
 have HB3 := Lib.hid (HB2.out.trans (hB3.mono HB2.out.size))
 clear hB3 HM HB2
 go_wp2_with fail
 go_ret2
 exact ⟨rfl, HB3.out⟩
theorem far_walk (w : World) (hb n : Nat) (h : HierP) (wm : Int) (H : HierRep w hb n h) (hok : HOk n wm h) (s t : Int) :
  Calls Tryz.prog 15 #[.pointer (some ⟨hb, 0, none⟩), .int .i64 s, .int .i64 t] w fun r w' => r = .returned (.int .i64 (farP n h s t)) ∧ Below w.heap.size w w' := by
 have HW := Lib.hid (where_walk w hb n h wm H hok s t)
 have HX : Hid (∃ x, farP n h s t = x) := Lib.hid ⟨_, rfl⟩
 have e0 : farP n h s t = (whereP n h s t).1 := rfl
 rw [e0]
 generalize whereP n h s t = p at *
 clear H hok e0 HX
 obtain ⟨d, x⟩ := p
 simp only at HW ⊢
 go_enter Tryz.func15, Tryz.ntmps15
 go_wp2_with (first | (go_at_call 38; refine HW.out.mono ?_; rintro e w1 ⟨rfl, hB⟩; have HB := Lib.hid hB; clear hB))
 all_goals go_ret
 all_goals exact ⟨rfl, HB.out⟩
def cmpI (x y : Int) : Int := if x < y then -1 else if x > y then 1 else 0
def orI (x y : Int) : Int := if x = 0 then y else x
theorem compare_walk (x y : Int) (w : World) : Calls Tryz.prog 116 #[.int .i64 x, .int .i64 y] w fun r w' => r = .returned (.int .i64 (cmpI x y)) ∧ ∃ j, w' = w.drewN j := by
 refine (cmp_Compare_int.calls x y (cmpI x y) w ?_).mono ?_
 ·simp [cmp_Compare_int.f, cmp_isNaN_int.f, cmpI]
  split
  ·rfl
  ·split <;> rfl
 ·rintro e w' ⟨rfl, hd⟩
  obtain ⟨⟨j, rfl⟩⟩ := hd
  exact ⟨rfl, j, rfl⟩
theorem or_walk (x y : Int) (A : Option Addr) (c : Nat) (w : World) (hC : Kd.C (Kd.int .i64) w A 2 [x, y]) (hc : 2 ≤ c) : Calls Tryz.prog 115 #[.slice A 2 c] w fun r w' => r = .returned (.int .i64 (orI x y)) ∧ ∃ j, w' = w.drewN j := by
 refine (cmp_Or_int.calls 4 A c [x, y] (orI x y) w hC hc ?_).mono ?_
 ·unfold orI
  have w1 : wrap64 1 = 1 := by kernel_rfl
  have w2 : wrap64 2 = 2 := by kernel_rfl
  by_cases h : x = 0
  ·by_cases g : y = 0
   ·simp [cmp_Or_int.f, cmp_Or_int.l0, rd, h, g, w1, w2]
   ·simp [cmp_Or_int.f, cmp_Or_int.l0, rd, h, g, w1, w2]
  ·simp [cmp_Or_int.f, cmp_Or_int.l0, rd, h, w1, w2]
 ·rintro e w' ⟨rfl, hd⟩
  obtain ⟨⟨j, rfl⟩⟩ := hd
  exact ⟨rfl, j, rfl⟩
theorem cell_alloc_any {w : World} {p : Addr} {u : Value} {o : Obj} (h : w.cell? p = some u) : (w.alloc o).cell? p = some u := by
 have hlt : p.block < w.heap.size := by
  unfold World.cell? at h
  cases ho : w.heap[p.block]? with
  | none => simp [ho] at h
  | some o => exact (Array.getElem?_eq_some_iff.1 ho).1
 exact (World.cell?_of_block (w := w) (Below.heap_alloc w o p.block hlt)).trans h
theorem two_boxes (w : World) (a b : S37) : ∀ W, (w.alloc (.cells #[.int .i64 a.f0, .int .i64 a.f1] 37)).alloc (.cells #[.int .i64 b.f0, .int .i64 b.f1] 37) = W →
  Below w.heap.size w W ∧ W.heap[w.heap.size]? = some (.cells #[.int .i64 a.f0, .int .i64 a.f1] 37 (0, 0)) ∧ W.heap[w.heap.size + 1]? = some (.cells #[.int .i64 b.f0, .int .i64 b.f1] 37 (0, 0)) ∧ W.heap.size = w.heap.size + 2 := by
 rintro W rfl
 refine ⟨((Below.refl _ w).alloc (Nat.le_refl _) _).alloc (by simp) _, blk_alloc (blk_new w _) _, ?_, by simp⟩
 have := blk_new (w.alloc (.cells #[.int .i64 a.f0, .int .i64 a.f1] 37)) (.cells #[.int .i64 b.f0, .int .i64 b.f1] 37)
 rwa [World.size_alloc] at this
set_option maxRecDepth 100000 in
set_option maxHeartbeats 4000000 in
theorem beats_walk (w : World) (hb n : Nat) (h : HierP) (wm : Int) (H : HierRep w hb n h) (hok : HOk n wm h) (a b : S37) (back : Bool) (ha0 : 0 ≤ a.f1) (ha1 : a.f1 ≤ 2305843009213693952) :
  Calls Tryz.prog 87 #[.pointer (some ⟨hb, 0, none⟩), .agg #[.int .i64 a.f0, .int .i64 a.f1], .agg #[.int .i64 b.f0, .int .i64 b.f1], .bool back] w fun r w' => r = .returned (.bool (beatsP n h back a b)) ∧ Below w.heap.size w w' := by
 obtain ⟨W, hW⟩ : ∃ W, (w.alloc (.cells #[.int .i64 a.f0, .int .i64 a.f1] 37)).alloc (.cells #[.int .i64 b.f0, .int .i64 b.f1] 37) = W := ⟨_, rfl⟩
 obtain ⟨hB, hba, hbb, hsz⟩ := two_boxes w a b W hW
 have HW := Lib.hid hW
 have HB := Lib.hid hB
 have HBA := Lib.hid hba
 have HBB := Lib.hid hbb
 have HF : Hid (∀ W1, Below W.heap.size W W1 → Calls Tryz.prog 15 #[.pointer (some ⟨hb, 0, none⟩), .int .i64 (if back = true then b.f0 else a.f0), .int .i64 (if back = true then a.f0 else b.f0)] W1 fun r w' => r = .returned (.int .i64 (farP n h (if back = true then b.f0 else a.f0) (if back = true then a.f0 else b.f0))) ∧ Below W.heap.size W w') := Lib.hid (fun W1 g =>
  (far_walk _ hb n h wm ((H.below hB).below g) hok _ _).mono (fun r w' hh => ⟨hh.1, g.trans (hh.2.mono g.size)⟩))
 have hfb := far_bound hok H.small (if back = true then b.f0 else a.f0) (if back = true then a.f0 else b.f0)
 have HV : Hid (beatsP n h back a b = (decide (farP n h (if back = true then b.f0 else a.f0) (if back = true then a.f0 else b.f0) ≠ -1) && decide (a.f0 ≠ b.f0) && (decide (a.f1 + farP n h (if back = true then b.f0 else a.f0) (if back = true then a.f0 else b.f0) < b.f1) || (decide (a.f1 + farP n h (if back = true then b.f0 else a.f0) (if back = true then a.f0 else b.f0) = b.f1) && decide (a.f0 < b.f0))))) := Lib.hid (by cases back <;> rfl)
 generalize farP n h (if back = true then b.f0 else a.f0) (if back = true then a.f0 else b.f0) = d at *
 generalize beatsP n h back a b = V at *
 obtain ⟨a0, a1⟩ := a
 obtain ⟨b0, b1⟩ := b
 simp only at *
 clear H hok hW hB hba hbb
 cases back
 all_goals simp only [Bool.false_eq_true, if_false, if_true] at HF HV ⊢
 all_goals
  go_enter Tryz.func87, Tryz.ntmps87
  go_wp2_with fail
  rw [HW.out]
  have ca0 := (blk_cell HBA.out 0).trans rfl
  have ca1 := (blk_cell HBA.out 1).trans rfl
  have cb0 := (blk_cell HBB.out 0).trans rfl
  have cb1 := (blk_cell HBB.out 1).trans rfl
  have hlt0 : w.heap.size < W.heap.size := by omega
  have hlt1 : w.heap.size + 1 < W.heap.size := by omega
  clear HW
  go_region
  go_wp2_with fail
  refine (HF.out _ (Below.refl _ _).drew).mono ?_
  rintro e w1 ⟨rfl, hB1⟩
  have ka0 := (hB1.cell (p := ⟨w.heap.size, 0, none⟩) hlt0).trans ca0
  have ka1 := (hB1.cell (p := ⟨w.heap.size, 1, none⟩) hlt0).trans ca1
  have kb0 := (hB1.cell (p := ⟨w.heap.size + 1, 0, none⟩) hlt1).trans cb0
  have kb1 := (hB1.cell (p := ⟨w.heap.size + 1, 1, none⟩) hlt1).trans cb1
  have hl0 : w.heap.size < w1.heap.size := Nat.lt_of_lt_of_le hlt0 hB1.size
  have hl1 : w.heap.size + 1 < w1.heap.size := Nat.lt_of_lt_of_le hlt1 hB1.size
  have HB1 := Lib.hid (HB.out.trans (hB1.mono HB.out.size))
  clear hB1 ca0 ca1 cb0 cb1 hlt0 hlt1 HF HBA HBB HB hsz
  by_cases hd : d = -1
  ·have hVF : V = false := by rw [HV.out]; simp [hd]
   subst hVF
   have e1 : (d == -1) = true := by simp [hd]
   clear hfb HV hd
   go_wp2_with fail
   all_goals go_ret
   all_goals exact ⟨rfl, HB1.out⟩
  ·have e1 : (d == -1) = false := by simp [hd]
   by_cases he : a0 = b0
   ·have hVF : V = false := by rw [HV.out]; simp [he]
    subst hVF
    subst he
    clear hfb HV hd
    go_wp2_with fail
    all_goals go_ret
    all_goals exact ⟨rfl, HB1.out⟩
   ·have e2 : (a0 == b0) = false := by simp [he]
    have hs : IntKind.i64.wrap (a1 + d) = a1 + d := i64w rfl (by omega) (by omega)
    have hVF : Hid (V = decide (orI (cmpI (a1 + d) b1) (cmpI a0 b0) < 0)) := Lib.hid (by
     rw [HV.out]
     rw [show decide (d ≠ -1) = true from by simp [hd], show decide (a0 ≠ b0) = true from by simp [he]]
     unfold orI cmpI
     generalize a1 + d = s
     simp only [Bool.true_and]
     rw [Bool.eq_iff_iff]
     simp only [Bool.or_eq_true, Bool.and_eq_true, decide_eq_true_eq]
     repeat (first | omega | split))
    clear HV hd he hfb
    generalize hsd : a1 + d = s at *
    obtain ⟨c1, hc1⟩ : ∃ c, cmpI s b1 = c := ⟨_, rfl⟩
    obtain ⟨c2, hc2⟩ : ∃ c, cmpI a0 b0 = c := ⟨_, rfl⟩
    have HC1 : Hid (∀ W, Calls Tryz.prog 116 #[.int .i64 s, .int .i64 b1] W fun r w' => r = .returned (.int .i64 c1) ∧ ∃ j, w' = W.drewN j) := Lib.hid (fun W => by rw [← hc1]; exact compare_walk s b1 W)
    have HC2 : Hid (∀ W, Calls Tryz.prog 116 #[.int .i64 a0, .int .i64 b0] W fun r w' => r = .returned (.int .i64 c2) ∧ ∃ j, w' = W.drewN j) := Lib.hid (fun W => by rw [← hc2]; exact compare_walk a0 b0 W)
    rw [hc1, hc2] at hVF
    clear hc1 hc2
    go_wp2_with fail
    refine start_ (n := 16) (S := fun w' => w'.cell? ⟨w.heap.size, 0, none⟩ = some (.int .i64 a0) ∧ w'.cell? ⟨w.heap.size, 1, none⟩ = some (.int .i64 a1) ∧ w'.cell? ⟨w.heap.size + 1, 0, none⟩ = some (.int .i64 b0) ∧ w'.cell? ⟨w.heap.size + 1, 1, none⟩ = some (.int .i64 b1)) (ds := []) (bA_ 16 0) (by kernel_rfl) rfl rfl ⟨ka0, ka1, kb0, kb1⟩ (fun hHeld => ?_)
    refine p2_ 0 32 (bA_ 16 1) ?_
    refine p2_ 2 34 (bA_ 16 5) ?_
    refine p2_ 4 36 (bA_ 16 21) ?_
    refine p2_ 7 39 (bA_ 16 149) ?_
    refine p2_ 9 41 (bA_ 16 661) ?_
    refine t2_ 1 33 (bA_ 16 663) hHeld ?_ (hy := by rintro w' ⟨s0, s1, s2, s3⟩; go_simp; with_reducible rfl)
    refine p2_ 3 35 (bA_ 16 671) ?_
    refine t2_ 5 37 (bA_ 16 703) hHeld ?_ (hy := by rintro w' ⟨s0, s1, s2, s3⟩; go_simp; with_reducible rfl)
    refine t2_ 8 40 (bA_ 16 959) hHeld ?_ (hy := by rintro w' ⟨s0, s1, s2, s3⟩; go_simp; with_reducible rfl)
    refine t2_ 10 42 (bA_ 16 1983) hHeld ?_ (hy := by rintro w' ⟨s0, s1, s2, s3⟩; go_simp; with_reducible rfl)
    refine o2_ 6 38 (bA_ 16 2047) (fun K hK => ?_)
    refine g2_ Tryz.func116 #[.int .i64 s, .int .i64 b1] ?_
    with_reducible refine (HC1.out _).mono ?_
    rintro e w3 ⟨rfl, j1, rfl⟩
    refine ⟨_, rfl, ?_⟩
    refine hK.out _ _ ⟨hHeld.1, hHeld.2.1, hHeld.2.2.1, hHeld.2.2.2⟩ (fun hHeld => ?_)
    clear hK K
    refine n2_ 38 ?_
    refine o2_ 11 43 (bA_ 16 4095) (fun K hK => ?_)
    refine g2_ Tryz.func116 #[.int .i64 a0, .int .i64 b0] ?_
    with_reducible refine (HC2.out _).mono ?_
    rintro e w3 ⟨rfl, j2, rfl⟩
    refine ⟨_, rfl, ?_⟩
    refine hK.out _ _ ⟨hHeld.1, hHeld.2.1, hHeld.2.2.1, hHeld.2.2.2⟩ (fun hHeld => ?_)
    clear hK K
    refine n2_ 43 ?_
    refine o2_ 12 44 (bA_ 16 8191) (fun K hK => ?_)
    refine value_ (w1 := ?_) (v := ?_) (by rfl) rfl ?_ ?_
    rotate_left 2
    ·go_simp
     constructor
     ·rfl
     ·rfl
    refine hK.out _ _ ⟨(cell_alloc_any hHeld.1), (cell_alloc_any hHeld.2.1), (cell_alloc_any hHeld.2.2.1), (cell_alloc_any hHeld.2.2.2)⟩ (fun hHeld => ?_)
    clear hK K
    refine n2_ 44 ?_
    refine o2_ 13 45 (bA_ 16 16383) (fun K hK => ?_)
    refine g2_ Tryz.func115 #[.slice (some ⟨_, 0, none⟩) 2 2] ?_
    with_reducible refine (or_walk c1 c2 _ _ _ (litI _ _ [c1, c2] _ rfl (blk_new _ _) (by simp)) (by decide)).mono ?_
    rintro e w3 ⟨rfl, j3, rfl⟩
    refine ⟨_, rfl, ?_⟩
    refine hK.out _ _ ⟨hHeld.1, hHeld.2.1, hHeld.2.2.1, hHeld.2.2.2⟩ (fun hHeld => ?_)
    clear hK K
    refine n2_ 45 ?_
    refine p2_ 14 46 (bA_ 16 32767) ?_
    refine p2_ 15 8 (bA_ 16 65535) ?_
    refine done_ (by kernel_rfl) ?_
    go_wp2_with fail
    go_ret
    refine ⟨by rw [hVF.out]; rfl, ?_⟩
    have hz := HB1.out.size
    exact pw_below_drewN ((pw_below_drewN HB1.out _).alloc (by simpa using hz) _) _
theorem r39_form {w : World} {B : Nat} {v : Value} {l : List S37} (h : Kd.R k37 37 w B (fun _ => True) v l) : (v = .slice none 0 0 ∧ l = []) ∨ ∃ g cap, v = .slice (some ⟨g, 0, none⟩) l.length cap := by
 obtain ⟨_, xs, hown, hlen, _⟩ := h
 rcases hown.2 with ⟨e1, e2⟩ | ⟨g, cap, cur, e1, _⟩
 ·exact .inl ⟨e1, List.eq_nil_of_length_eq_zero e2⟩
 ·exact .inr ⟨g, cap, e1⟩
set_option maxRecDepth 100000 in
set_option maxHeartbeats 1000000 in
theorem clone_walk (w : World) (B : Nat) (v : Value) (l : List S37) (h : Kd.R k37 37 w B (fun _ => True) v l) (hl : l.length ≤ 1000000) :
  Calls Tryz.prog 85 #[v] w fun r w' => ∃ vr, r = .returned vr ∧ Kd.R k37 37 w' w.heap.size (fun _ => True) vr l ∧ Below w.heap.size w w' := by
 have qn := fun w a n c n' c' => Lib.run_eql_slice_nil (P := Tryz.prog) w 33 37 a n c n' c' Tryz.underlying33
 have HR := Lib.hid h
 obtain ⟨A, c, hv, hc, hC⟩ := Kd.R_reads h
 have HC := Lib.hid hC
 rcases r39_form h with ⟨rfl, rfl⟩ | ⟨g, cap, rfl⟩
 ·clear h hv hc hC
  go_enter Tryz.func85, Tryz.ntmps85
  go_wp2_with fail
  go_ret
  exact ⟨_, rfl, Kd.R_nil _ _ _ _ _, Below.refl _ _⟩
 ·obtain ⟨rfl, rfl⟩ : A = some ⟨g, 0, none⟩ ∧ c = cap := by
   injection hv with h1 h2 h3
   exact ⟨h1.symm, h3.symm⟩
  clear h hv hC
  obtain ⟨m, hm⟩ : ∃ m, l.length = m := ⟨_, rfl⟩
  rw [hm] at hc hl HC ⊢
  clear HR
  have HR0 : Hid (Kd.R k37 37 (w.alloc (.cells #[] 37)) w.heap.size (fun _ => True) (.slice (some ⟨w.heap.size, 0, none⟩) 0 0) ([] : List S37)) := Lib.hid (by
   have hown : (w.alloc (.cells #[] 37)).ownsRow w.heap.size 37 2 (.slice (some ⟨w.heap.size, 0, none⟩) 0 0) 0 [] := ⟨rfl, .inr ⟨w.heap.size, 0, #[], rfl, Nat.le_refl _, blk_new w _, Nat.le_refl _, by decide, rfl, rfl⟩⟩
   exact ⟨fun _ _ => trivial, [], hown, rfl, fun j p hj => by simp at hj⟩)
  have HB0 : Hid (Below w.heap.size w (w.alloc (.cells #[] 37))) := Lib.hid ((Below.refl _ _).alloc (Nat.le_refl _) _)
  have HC1 : Hid (Kd.C k37 (w.alloc (.cells #[] 37)) (some ⟨g, 0, none⟩) m l) := Lib.hid (Kd.C_alloc HC.out _)
  have hsz : w.heap.size ≤ (w.alloc (.cells #[] 37)).heap.size := by simp
  clear HC
  go_enter Tryz.func85, Tryz.ntmps85
  go_wp2_with (first | (at_builtin; refine Kd.R_append_rows k37 (w0 := w) w.heap.size rfl (.tmp 5) (.tmp 6) 33 37 (.agg #[.int .i64 0, .int .i64 0]) 16 rfl Tryz.underlying33 info37 rfl (by decide) (by omega) (.slice (some ⟨w.heap.size, 0, none⟩) 0 0) ([] : List S37) l (some ⟨g, 0, none⟩) m c (fun _ => True) (fun _ => False) rfl rfl HR0.out HC1.out (fun x cs hx => by obtain rfl := k37_open hx; exact k37_mkM _ _ _ _) (fun _ h => h.elim) (fun _ _ => trivial) HB0.out hsz (by simp; omega) ?_; intro v1 w1 hR1 hB1 _ _; have HR1 := Lib.hid hR1; have HB1 := Lib.hid hB1; clear hR1 hB1))
  all_goals (try rw [Exit.noGoto_ret])
  go_ret
  exact ⟨_, rfl, by simpa using HR1.out, HB1.out⟩
def pruneP (n : Nat) (h : HierP) (back : Bool) (l : List S37) : List S37 := l.filter fun b => !(l.any fun a => beatsP n h back a b)
theorem prune1_walk (w : World) (bh bk hb n : Nat) (h : HierP) (wm : Int) (back : Bool) (hbh : w.cell? ⟨bh, 0, none⟩ = some (.pointer (some ⟨hb, 0, none⟩))) (hbk : w.cell? ⟨bk, 0, none⟩ = some (.bool back)) (H : HierRep w hb n h) (hok : HOk n wm h) (a b : S37) (ha0 : 0 ≤ a.f1) (ha1 : a.f1 ≤ 2305843009213693952) :
  Calls Tryz.prog 86 #[.agg #[.int .i64 a.f0, .int .i64 a.f1], .agg #[.int .i64 b.f0, .int .i64 b.f1], .pointer (some ⟨bh, 0, none⟩), .pointer (some ⟨bk, 0, none⟩)] w fun r w' => r = .returned (.bool (beatsP n h back a b)) ∧ Below w.heap.size w w' := by
 have hB : Below w.heap.size w ((w.alloc (.cells #[.int .i64 a.f0, .int .i64 a.f1] 37)).alloc (.cells #[.int .i64 b.f0, .int .i64 b.f1] 37)) := ((Below.refl _ w).alloc (Nat.le_refl _) _).alloc (by simp) _
 have lh := World.block_lt_of_cell? w _ hbh
 have lk := World.block_lt_of_cell? w _ hbk
 have HBE := Lib.hid (beats_walk _ hb n h wm (H.below hB) hok a b back ha0 ha1)
 have HB := Lib.hid hB
 obtain ⟨_, ba, bb, hsz⟩ := two_boxes w a b _ rfl
 generalize beatsP n h back a b = V at *
 obtain ⟨a0, a1⟩ := a
 obtain ⟨b0, b1⟩ := b
 simp only at *
 have ca0 := (blk_cell ba 0).trans rfl
 have ca1 := (blk_cell ba 1).trans rfl
 have cb0 := (blk_cell bb 0).trans rfl
 have cb1 := (blk_cell bb 1).trans rfl
 clear ba bb hB H hok
 go_enter Tryz.func86, Tryz.ntmps86
 go_wp2_with fail
 refine HBE.out.mono ?_
 rintro e w1 ⟨rfl, g⟩
 have HG := Lib.hid (HB.out.trans (g.mono HB.out.size))
 clear g HBE HB
 go_wp2_with fail
 go_ret
 exact ⟨rfl, HG.out⟩
theorem pruneP_take (n : Nat) (h : HierP) (back : Bool) (l : List S37) (i : Nat) (hi : i < l.length) :
  (l.take (i + 1)).filter (fun b => !(l.any fun a => beatsP n h back a b)) = (l.take i).filter (fun b => !(l.any fun a => beatsP n h back a b)) ++ (if (l.any fun a => beatsP n h back a (rd_T37 l (i : Int))) = true then [] else [rd_T37 l (i : Int)]) := by
 rw [List.take_succ_eq_append_getElem hi, List.filter_append]
 have : rd_T37 l (i : Int) = l[i] := by simp [rd_T37, List.getD, hi]
 rw [this]
 cases hb : (l.any fun a => beatsP n h back a l[i]) <;> simp [hb]
theorem any_take (l : List S37) (p : S37 → Bool) (j : Nat) (hj : j < l.length) : (l.take (j + 1)).any p = ((l.take j).any p || p (rd_T37 l (j : Int))) := by
 rw [List.take_succ_eq_append_getElem hj, List.any_append]
 have : rd_T37 l (j : Int) = l[j] := by simp [rd_T37, List.getD, hj]
 rw [this]; simp
theorem any_of_take {l : List S37} {p : S37 → Bool} {j : Nat} (h : (l.take j).any p = true) : l.any p = true := by
 rw [List.any_eq_true] at h ⊢
 obtain ⟨x, hx, hp⟩ := h
 exact ⟨x, List.mem_of_mem_take hx, hp⟩
theorem rd39_mem (l : List S37) (i : Nat) (h : i < l.length) : rd_T37 l (i : Int) ∈ l := by
 have e : rd_T37 l (i : Int) = l[i] := by simp [rd_T37, List.getD, h]
 rw [e]; exact List.getElem_mem _
set_option maxRecDepth 100000 in
set_option maxHeartbeats 4000000 in
theorem unbeaten_walk (w : World) (A : Option Addr) (c bh bk hb n : Nat) (h : HierP) (wm : Int) (back : Bool) (l : List S37) (hC : Kd.C k37 w A l.length l) (hc : l.length ≤ c) (hl : l.length ≤ 1000) (hD : ∀ a ∈ l, 0 ≤ a.f1 ∧ a.f1 ≤ 2305843009213693952)
  (hbh : w.cell? ⟨bh, 0, none⟩ = some (.pointer (some ⟨hb, 0, none⟩))) (hbk : w.cell? ⟨bk, 0, none⟩ = some (.bool back)) (H : HierRep w hb n h) (hok : HOk n wm h) :
  Calls Tryz.prog 84 #[.slice A l.length c, .func (.func 86) #[] #[.pointer (some ⟨bh, 0, none⟩), .pointer (some ⟨bk, 0, none⟩)]] w fun r w' => ∃ vr, r = .returned vr ∧ Kd.R k37 37 w' w.heap.size (fun _ => True) vr (pruneP n h back l) ∧ Below w.heap.size w w' := by
 have lh := World.block_lt_of_cell? w _ hbh
 have lk := World.block_lt_of_cell? w _ hbk
 have HT : Hid (∀ W, Below w.heap.size w W → ∀ a ∈ l, ∀ b : S37, Calls Tryz.prog 86 #[.agg #[.int .i64 a.f0, .int .i64 a.f1], .agg #[.int .i64 b.f0, .int .i64 b.f1], .pointer (some ⟨bh, 0, none⟩), .pointer (some ⟨bk, 0, none⟩)] W fun r w' => r = .returned (.bool (beatsP n h back a b)) ∧ Below W.heap.size W w') := Lib.hid (fun W g a ha b =>
  prune1_walk W bh bk hb n h wm back ((g.cell (p := ⟨bh, 0, none⟩) lh).trans hbh) ((g.cell (p := ⟨bk, 0, none⟩) lk).trans hbk) (H.below g) hok a b (hD a ha).1 (hD a ha).2)
 obtain ⟨len, hlen⟩ : ∃ len, l.length = len := ⟨_, rfl⟩
 have HLEN := Lib.hid hlen
 have HCC := Lib.hid hC
 have HPP : Hid (pruneP n h back l = (l.take len).filter (fun b => !(l.any fun a => beatsP n h back a b))) := Lib.hid (by rw [← hlen, List.take_length]; rfl)
 rw [hlen] at hc hl HCC ⊢
 clear hC hD hbh hbk H hok hlen lh lk
 go_enter Tryz.func84, Tryz.ntmps84
 go_wp2_with fail
 go_loopw [5, 13] (fun v5 v13 wr => ∃ i : Nat, v13 = .int .i64 i ∧ i ≤ len ∧ Hid (Kd.R k37 37 wr w.heap.size (fun _ => True) v5 ((l.take i).filter (fun b => !(l.any fun a => beatsP n h back a b)))) ∧ Hid (Below w.heap.size w wr)) (fun _ v13 _ => len - (intOf v13).toNat)
 case atStart => exact ⟨0, rfl, by omega, Lib.hid (Kd.R_nil _ _ _ _ _), Lib.hid (Below.refl _ _)⟩
 case round =>
  obtain ⟨i, rfl, hi, HR, HB⟩ := hrel
  by_cases hlt : i < len
  ·obtain ⟨ad, rfl, r0, r1⟩ := at39C (Kd.C_below HCC.out HB.out) i (by have := HLEN.out; omega)
   have HPT := Lib.hid (pruneP_take n h back l i (by have := HLEN.out; omega))
   have HTI : Hid (∀ W, Below w.heap.size w W → ∀ j : Nat, j < len → Calls Tryz.prog 86 #[.agg #[.int .i64 (rd_T37 l (j : Int)).f0, .int .i64 (rd_T37 l (j : Int)).f1], .agg #[.int .i64 (rd_T37 l (i : Int)).f0, .int .i64 (rd_T37 l (i : Int)).f1], .pointer (some ⟨bh, 0, none⟩), .pointer (some ⟨bk, 0, none⟩)] W fun r w' => r = .returned (.bool (beatsP n h back (rd_T37 l (j : Int)) (rd_T37 l (i : Int)))) ∧ Below W.heap.size W w') := Lib.hid (fun W g j hj =>
    HT.out W g _ (rd39_mem l j (by have := HLEN.out; omega)) _)
   have HFL : Hid (((l.take i).filter (fun b => !(l.any fun a => beatsP n h back a b))).length ≤ 1000) := Lib.hid (by
    have h1 := List.length_filter_le (fun b => !(l.any fun a => beatsP n h back a b)) (l.take i)
    have h2 : (l.take i).length ≤ i := by simp; omega
    omega)
   generalize rd_T37 l (i : Int) = e at *
   have HX : Hid (∃ p : S37 → Bool, p = fun a => beatsP n h back a e) := Lib.hid ⟨_, rfl⟩
   obtain ⟨p, hp⟩ := HX.out
   have HTP : Hid (∀ W, Below w.heap.size w W → ∀ j : Nat, j < len → Calls Tryz.prog 86 #[.agg #[.int .i64 (rd_T37 l (j : Int)).f0, .int .i64 (rd_T37 l (j : Int)).f1], .agg #[.int .i64 e.f0, .int .i64 e.f1], .pointer (some ⟨bh, 0, none⟩), .pointer (some ⟨bk, 0, none⟩)] W fun r w' => r = .returned (.bool (p (rd_T37 l (j : Int)))) ∧ Below W.heap.size W w') := Lib.hid (by rw [hp]; exact HTI.out)
   rw [show (fun a => beatsP n h back a e) = p from hp.symm] at HPT
   obtain ⟨a0, a1⟩ := e
   simp only at r0 r1 HTP HPT
   have HB1 : Hid (Below wr.heap.size wr (wr.alloc (.cells #[.int .i64 a0, .int .i64 a1] 37))) := Lib.hid ((Below.refl _ _).alloc (Nat.le_refl _) _)
   have hnew := blk_new wr (.cells #[.int .i64 a0, .int .i64 a1] 37)
   have hi0 : (0 : Int) ≤ (i : Int) := Int.natCast_nonneg _
   have hi1 : (i : Int) < (len : Int) := by omega
   obtain ⟨W1, hW1⟩ : ∃ W1, wr.alloc (.cells #[.int .i64 a0, .int .i64 a1] 37) = W1 := ⟨_, rfl⟩
   obtain ⟨bb, hbb⟩ : ∃ bb, wr.heap.size = bb := ⟨_, rfl⟩
   rw [hW1] at HB1 hnew
   rw [hbb] at hnew
   have HNEW := Lib.hid hnew
   have HW1 := Lib.hid hW1
   have HBB := Lib.hid hbb
   clear HT HTI HX hp hnew hW1 hbb
   go_wp2_with fail
   rw [HW1.out, HBB.out]
   go_step3
   go_wp2_with fail
   go_step3
   rename_i hK
   refine hK _ _ ?_
   refine wp_seq_k ?_
   intro K0 hK0
   go_cut [8, 10] from 17 to 28 (fun v8 v10 wc => v8 = .bool (l.any p) ∧ Hid (Below W1.heap.size W1 wc))
   case first =>
    go_wp2_with fail
    go_loopw [8, 19] (fun v8 v19 wr => ∃ j : Nat, v8 = .bool false ∧ v19 = .int .i64 j ∧ j ≤ len ∧ Hid ((l.take j).any p = false) ∧ Hid (Below W1.heap.size W1 wr)) (fun _ v19 _ => len - (intOf v19).toNat)
    case atStart => exact ⟨0, rfl, rfl, by omega, Lib.hid rfl, Lib.hid (Below.refl _ _)⟩
    case round =>
     obtain ⟨j, rfl, rfl, hj, HF, HG⟩ := hrel
     have hgb := (HG.out.block _ (blk_lt HNEW.out)).trans HNEW.out
     have b0 := (blk_cell hgb 0).trans rfl
     have b1 := (blk_cell hgb 1).trans rfl
     have lb := blk_lt hgb
     have HWQ : Hid (Below w.heap.size w wr) := Lib.hid (HB.out.trans ((HB1.out.mono HB.out.size).trans (HG.out.mono (Nat.le_trans HB.out.size HB1.out.size))))
     by_cases hjt : j < len
     ·obtain ⟨ad', had, s0, s1⟩ := at39C (Kd.C_below HCC.out HWQ.out) j (by have := HLEN.out; omega)
      obtain rfl := Option.some.inj had
      have hAT := any_take l p j (by have := HLEN.out; omega)
      rw [HF.out, Bool.false_or] at hAT
      have HAT := Lib.hid hAT
      have g2 : Below W1.heap.size W1 (wr.alloc (.cells #[.int .i64 (rd_T37 l (j : Int)).f0, .int .i64 (rd_T37 l (j : Int)).f1] 37)) := HG.out.alloc HG.out.size _
      have HG2 := Lib.hid g2
      have HCL := Lib.hid (HTP.out _ (HB.out.trans ((HB1.out.mono HB.out.size).trans (g2.mono (Nat.le_trans HB.out.size HB1.out.size)))) j hjt)
      have hj0 : (0 : Int) ≤ (j : Int) := Int.natCast_nonneg _
      have hj1 : (j : Int) < (len : Int) := by omega
      clear hAT had g2 HF
      generalize p (rd_T37 l (j : Int)) = V at *
      generalize (rd_T37 l (j : Int)).f0 = x0 at *
      generalize (rd_T37 l (j : Int)).f1 = x1 at *
      cases V with
      | true =>
       have HAL : Hid (l.any p = true) := Lib.hid (any_of_take HAT.out)
       go_wp2_with (first | (go_at_call 86; refine HCL.out.mono ?_; rintro e w2 ⟨rfl, g3⟩; have HG3 := Lib.hid (HG2.out.trans (g3.mono HG2.out.size)); clear g3))
       go_meet
       exact ⟨by rw [HAL.out], HG3⟩
      | false =>
       go_wp2_with (first | (go_at_call 86; refine HCL.out.mono ?_; rintro e w2 ⟨rfl, g3⟩; have HG3 := Lib.hid (HG2.out.trans (g3.mono HG2.out.size)); clear g3))
       go_roundw
       case measure => simp [intOf]; omega
       case rel => exact ⟨j + 1, rfl, by go_num, by omega, Lib.hid HAT.out, HG3⟩
     ·have HAL : Hid (l.any p = false) := Lib.hid (by have := HF.out; rwa [List.take_of_length_le (by have := HLEN.out; omega)] at this)
      have hjl : len ≤ j := by omega
      go_wp2_with fail
      go_meet
      exact ⟨by rw [HAL.out], HG⟩
   case rest =>
    obtain ⟨rfl, HW⟩ := hcut
    have hgb := (HW.out.block _ (blk_lt HNEW.out)).trans HNEW.out
    have b0 := (blk_cell hgb 0).trans rfl
    have b1 := (blk_cell hgb 1).trans rfl
    have lb := blk_lt hgb
    have HWC : Hid (Below w.heap.size w wc) := Lib.hid (HB.out.trans ((HB1.out.mono HB.out.size).trans (HW.out.mono (Nat.le_trans HB.out.size HB1.out.size))))
    have HRC := Lib.hid (Kd.R_below (Kd.R_below HR.out HB1.out) HW.out)
    cases hany : l.any p with
    | true =>
     rw [hany] at HPT
     go_wp2_with fail
     go_roundw
     case measure => simp [intOf]; omega
     case rel => exact ⟨i + 1, by go_num, by omega, Lib.hid (by rw [HPT.out]; simpa using HRC.out), HWC⟩
    | false =>
     rw [hany] at HPT
     have hsz : w.heap.size ≤ wc.heap.size := HWC.out.size
     have hfl := HFL.out
     go_wp2_with (first | (at_builtin; refine Kd.R_append k37 (w0 := w) (W := wc) w.heap.size rfl (.tmp 31) (.tmp 33) 33 37 (.agg #[(.int .i64 0), (.int .i64 0)]) 16 rfl Tryz.underlying33 info37 rfl (by decide) (by omega) _ ((l.take i).filter (fun b => !(l.any fun a => beatsP n h back a b))) (⟨a0, a1⟩ : S37) [.int .i64 a0, .int .i64 a1] (fun _ => True) (fun _ => False) rfl rfl (k37_mkM _ _ _ _) (fun _ h => h.elim) (fun _ _ => trivial) HRC.out HWC.out (by omega) (by omega) ?_; intro v1 w2 hR2 hB2 _ _; have HR2 := Lib.hid hR2; have HB2 := Lib.hid hB2; clear hR2 hB2))
     (try rw [Exit.noGoto_normal])
     (try simp only [Exit.inBlock, Exit.then])
     go_wp2_with fail
     go_roundw
     case measure => simp [intOf]; omega
     case rel => exact ⟨i + 1, by go_num, by omega, Lib.hid (by rw [HPT.out]; simpa using HR2.out), HB2⟩
  ·have HIL : Hid (i = len) := Lib.hid (by omega)
   have hil : len ≤ i := by omega
   go_wp2_with fail
   go_ret
   rw [HIL.out] at HR
   exact ⟨_, rfl, by rw [HPP.out]; exact HR.out, HB.out⟩
theorem prune_walk (w : World) (hb n : Nat) (h : HierP) (wm : Int) (H : HierRep w hb n h) (hok : HOk n wm h) (back : Bool) (B : Nat) (v : Value) (l : List S37) (hR : Kd.R k37 37 w B (fun _ => True) v l) (hl : l.length ≤ 1000) (hD : ∀ a ∈ l, 0 ≤ a.f1 ∧ a.f1 ≤ 2305843009213693952) :
  Calls Tryz.prog 36 #[.pointer (some ⟨hb, 0, none⟩), v, .bool back] w fun r w' => ∃ vr, r = .returned vr ∧ Kd.R k37 37 w' w.heap.size (fun _ => True) vr (pruneP n h back l) ∧ Below w.heap.size w w' := by
 have hB : Below w.heap.size w ((w.alloc (.cells #[.pointer (some ⟨hb, 0, none⟩)] 26)).alloc (.cells #[.bool back] 4)) := ((Below.refl _ w).alloc (Nat.le_refl _) _).alloc (by simp) _
 have b0 : ((w.alloc (.cells #[.pointer (some ⟨hb, 0, none⟩)] 26)).alloc (.cells #[.bool back] 4)).heap[w.heap.size]? = some (.cells #[.pointer (some ⟨hb, 0, none⟩)] 26 (0, 0)) := blk_alloc (blk_new w _) _
 have b1 : ((w.alloc (.cells #[.pointer (some ⟨hb, 0, none⟩)] 26)).alloc (.cells #[.bool back] 4)).heap[w.heap.size + 1]? = some (.cells #[.bool back] 4 (0, 0)) := by
  have := blk_new (w.alloc (.cells #[.pointer (some ⟨hb, 0, none⟩)] 26)) (.cells #[.bool back] 4)
  rwa [World.size_alloc] at this
 obtain ⟨A, c, hv, _, _⟩ := Kd.R_reads hR
 subst hv
 have HCL := Lib.hid (clone_walk _ B _ l (Kd.R_below hR hB) (by omega))
 have HB := Lib.hid hB
 have HB0 := Lib.hid b0
 have HB1 := Lib.hid b1
 have HH := Lib.hid (H.below hB)
 have HOK := Lib.hid hok
 have HD := Lib.hid hD
 have HL := Lib.hid hl
 clear hR hl hD H hok hB b0 b1
 generalize l.length = m at HCL ⊢
 go_enter Tryz.func36, Tryz.ntmps36
 go_wp2_with fail
 generalize (w.alloc (.cells #[.pointer (some ⟨hb, 0, none⟩)] 26)).alloc (.cells #[.bool back] 4) = W1 at *
 refine HCL.out.mono ?_
 rintro e w2 ⟨v2, rfl, hR2, hB2⟩
 obtain ⟨A2, c2, hv2, hc2, hC2⟩ := Kd.R_reads hR2
 subst hv2
 have HU := Lib.hid (unbeaten_walk w2 A2 c2 w.heap.size (w.heap.size + 1) hb n h _ back l hC2 hc2 HL.out HD.out ((blk_cell ((hB2.block _ (blk_lt HB0.out)).trans HB0.out) 0).trans rfl) ((blk_cell ((hB2.block _ (blk_lt HB1.out)).trans HB1.out) 0).trans rfl) (HH.out.below hB2) HOK.out)
 have HB2 := Lib.hid (HB.out.trans (hB2.mono HB.out.size))
 clear hR2 hC2 hc2 hB2 HCL HH HB0 HB1 HD HL HOK
 generalize l.length = m at HU ⊢
 go_wp2_with fail
 refine HU.out.mono ?_
 rintro e w3 ⟨v3, rfl, hR3, hB3⟩
 have HR3 := Lib.hid (Kd.R_lower hR3 HB2.out.size)
 have HB3 := Lib.hid (HB2.out.trans (hB3.mono HB2.out.size))
 clear hR3 hB3 HU
 go_wp2_with fail
 go_ret
 exact ⟨v3, rfl, HR3.out, HB3.out⟩
theorem highP_in {n : Nat} {wm : Int} {h : HierP} (hok : HOk n wm h) (hn : n ≤ 900) (v : Nat) (hv : v < n) (top : Int) (back : Bool) : (highP n h v top back).length ≤ 1000 ∧ ∀ a ∈ highP n h v top back, 0 ≤ a.f1 ∧ a.f1 ≤ 2305843009213693952 := by
 refine ⟨Nat.le_trans (rowsP_len _ _ _) (by omega), fun a ha => ?_⟩
 obtain ⟨u, hu, e0, e1, _⟩ := rowsP_mem ha
 have := climb_bound (hok.sides back) hok.wm0 v hv _ _ e1
 have h1 := hok.wm1
 have h2 : ((n : Int) + 1) * wm ≤ 901 * 1125899906842624 := Int.mul_le_mul (by omega) h1 hok.wm0 (by omega)
 omega
theorem of_walk (w : World) (hb n : Nat) (h : HierP) (wm : Int) (H : HierRep w hb n h) (hok : HOk n wm h) (v : Nat) (hv : v < n) (k : Int) (back : Bool) :
  Calls Tryz.prog 14 #[.pointer (some ⟨hb, 0, none⟩), .int .i64 v, .int .i64 k, .bool back] w fun r w' => ∃ vr, r = .returned vr ∧ Kd.R k37 37 w' w.heap.size (fun _ => True) vr (pruneP n h back (highP n h v (lowAt n k) back)) ∧ Below w.heap.size w w' := by
 have HRW := Lib.hid (raw_walk w hb n h wm H hok v hv k back)
 obtain ⟨hl, hD⟩ := highP_in hok H.small v hv (lowAt n k) back
 have HH := Lib.hid H
 have HOK := Lib.hid hok
 have HD := Lib.hid hD
 have HL := Lib.hid hl
 clear H hok hl hD
 generalize highP n h v (lowAt n k) back = l at *
 go_enter Tryz.func14, Tryz.ntmps14
 go_wp2_with fail
 refine HRW.out.mono ?_
 rintro e w2 ⟨v2, rfl, hR2, hB2⟩
 have HP := Lib.hid (prune_walk w2 hb n h _ (HH.out.below hB2) HOK.out back w.heap.size v2 l hR2 HL.out HD.out)
 obtain ⟨A2, c2, hv2, _, _⟩ := Kd.R_reads hR2
 subst hv2
 have HB2 := Lib.hid hB2
 clear hR2 hB2 HRW HH HD HOK
 generalize l.length = m at HP ⊢
 go_wp2_with fail
 refine HP.out.mono ?_
 rintro e w3 ⟨v3, rfl, hR3, hB3⟩
 have HR3 := Lib.hid (Kd.R_lower hR3 HB2.out.size)
 have HB3 := Lib.hid (HB2.out.trans (hB3.mono HB2.out.size))
 clear hR3 hB3 HP
 go_wp2_with fail
 go_ret
 exact ⟨v3, rfl, HR3.out, HB3.out⟩
end Go.Proofs.YtfkejflmhidnaaaGreat.PAll
