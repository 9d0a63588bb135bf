import Derived.Test.YtfkejflmhidnaaaGreatQRcP
set_option linter.all false
namespace Go.Proofs.YtfkejflmhidnaaaGreat.PAll
open RowKit YW.PrintWords YW.PrintLast YW.PrintMore
open Hp hiding Good
set_option maxHeartbeats 1000000 in
theorem rfind_walk (w : World) (rA wA : Option Addr) (rc wc rn : Nat) (ways : List S71) (hw : Kd.C k71 w wA ways.length ways) (hf : ways.length ≤ 1000000) (u v : Int) :
  Calls Tryz.prog 132 #[.agg #[.slice rA rn rc, .slice wA ways.length wc], .int .i64 u, .int .i64 v] w fun r w' => ∃ x, r = .returned (.int .i64 x) ∧ FindIs ways u v x ∧ Below w.heap.size w w' := by
 have g : Below w.heap.size w (w.alloc (.cells #[.slice rA rn rc, .slice wA ways.length wc] 31)) := (Below.refl _ _).alloc (Nat.le_refl _) _
 have HW := Lib.hid (Kd.C_below hw g)
 have HB := Lib.hid g
 have hbox := blk_new w (.cells #[.slice rA rn rc, .slice wA ways.length wc] 31)
 obtain ⟨len, hlen⟩ : ∃ len, ways.length = len := ⟨_, rfl⟩
 have HLEN := Lib.hid hlen
 rw [hlen] at HB hf hbox ⊢
 rw [hlen] at HW
 have c1 := (blk_cell hbox 1).trans rfl
 have hlt : w.heap.size < (w.alloc (.cells #[.slice rA rn rc, .slice wA len wc] 31)).heap.size := by simp
 clear hw g hbox hlen
 go_enter Tryz.func132, Tryz.ntmps132
 go_wp2_with fail
 generalize w.alloc (.cells #[.slice rA rn rc, .slice wA len wc] 31) = w1 at *
 go_loopw [7] (fun v7 wr => ∃ i : Nat, v7 = .int .i64 i ∧ i ≤ len ∧ wr = w1 ∧ Hid (∀ j : Nat, j < i → ¬ EndsAt ways u v j)) (fun v7 _ => len - (intOf v7).toNat)
 case atStart => exact ⟨0, rfl, by omega, rfl, Lib.hid (fun j h => by omega)⟩
 case round =>
  obtain ⟨i, rfl, hi, rfl, HN⟩ := hrel
  by_cases hlt : i < len
  ·obtain ⟨ad, rfl, r0, r1, r2, r3, r4⟩ := at_T71 HW.out (i : Int) (by omega) (by have := HLEN.out; omega)
   have HE : Hid (EndsAt ways u v i ↔ (rd_T71 ways (i : Int)).f0 = u ∧ (rd_T71 ways (i : Int)).f1 = v) := Lib.hid Iff.rfl
   simp only [Int.toNat_natCast] at r0 r1 r2 r3 r4
   generalize rd_T71 ways (i : Int) = e at *
   obtain ⟨a, b, x, y, z⟩ := e
   simp only at r0 r1 r2 r3 r4 HE
   have hi0 : (0 : Int) ≤ (i : Int) := Int.natCast_nonneg _
   have hi1 : (i : Int) < (len : Int) := by omega
   have hno : ¬ (a = u ∧ b = v) → ∀ j : Nat, j < i + 1 → ¬ EndsAt ways u v j := fun h j hj => by
    rcases Nat.lt_or_ge j i with hji | hji
    ·exact HN.out j hji
    ·have : j = i := by omega
     subst this
     rw [HE.out]; exact h
   have HNO := Lib.hid hno
   clear hno
   by_cases h0 : a = u
   ·have e0 : (a == u) = true := by simp [h0]
    by_cases h1 : b = v
    ·have e1 : (b == v) = true := by simp [h1]
     have HFIN : Hid (FindIs ways u v (i : Int)) := Lib.hid (.inr ⟨i, rfl, by have := HLEN.out; omega, HE.out.2 ⟨h0, h1⟩, HN.out⟩)
     clear h0 h1
     go_wp2_with fail
     (try rw [Exit.noGoto_ret])
     go_ret
     exact ⟨_, rfl, HFIN.out, HB.out⟩
    ·have e1 : (b == v) = false := by simp [h1]
     have HFIN := Lib.hid (HNO.out (fun f => h1 f.2))
     clear h0 h1
     go_wp2_with fail
     go_roundw
     case measure => simp [intOf]; omega
     case rel => exact ⟨i + 1, by go_num, by omega, (by first | rfl | trivial), HFIN⟩
   ·have e0 : (a == u) = false := by simp [h0]
    have HFIN := Lib.hid (HNO.out (fun f => h0 f.1))
    clear h0
    go_wp2_with fail
    go_roundw
    case measure => simp [intOf]; omega
    case rel => exact ⟨i + 1, by go_num, by omega, (by first | rfl | trivial), HFIN⟩
  ·have HFIN : Hid (FindIs ways u v (-1)) := Lib.hid (.inl ⟨rfl, fun j hj => HN.out j (by have := HLEN.out; omega)⟩)
   have hil : len ≤ i := by omega
   go_wp2_with fail
   go_ret
   exact ⟨_, rfl, HFIN.out, HB.out⟩
set_option maxHeartbeats 1000000 in
theorem rat_walk (w : World) (rA : Option Addr) (rc m : Nat) (wv : Value) (hwv : ∃ A m c, wv = .slice A m c) (rank : List Int) (hr : Kd.C (Kd.int .i64) w rA rank.length rank) (hf : rank.length ≤ 1000000) (k : Int) :
  Calls Tryz.prog 106 #[.agg #[.slice rA rank.length rc, wv], .int .i64 k] w fun r w' => ∃ x, r = .returned (.int .i64 x) ∧ (x = -1 ∨ ∃ i : Nat, x = i ∧ i < rank.length ∧ rd rank (i : Int) = k) ∧ Below w.heap.size w w' := by
 obtain ⟨wA, wm, wc, rfl⟩ := hwv
 have g : Below w.heap.size w (w.alloc (.cells #[.slice rA rank.length rc, .slice wA wm wc] 31)) := (Below.refl _ _).alloc (Nat.le_refl _) _
 have HW := Lib.hid (Kd.C_below hr g)
 have HB := Lib.hid g
 have hbox := blk_new w (.cells #[.slice rA rank.length rc, .slice wA wm wc] 31)
 obtain ⟨len, hlen⟩ : ∃ len, rank.length = len := ⟨_, rfl⟩
 have HLEN := Lib.hid hlen
 rw [hlen] at HB hf hbox ⊢
 rw [hlen] at HW
 have c1 := (blk_cell hbox 0).trans rfl
 have hlt : w.heap.size < (w.alloc (.cells #[.slice rA len rc, .slice wA wm wc] 31)).heap.size := by simp
 clear hr g hbox hlen
 go_enter Tryz.func106, Tryz.ntmps106
 go_wp2_with fail
 generalize w.alloc (.cells #[.slice rA len rc, .slice wA wm wc] 31) = w1 at *
 go_loopw [5] (fun v5 wr => ∃ i : Nat, v5 = .int .i64 i ∧ i ≤ len ∧ wr = w1) (fun v5 _ => len - (intOf v5).toNat)
 case atStart => exact ⟨0, rfl, by omega, rfl⟩
 case round =>
  obtain ⟨i, rfl, hi, rfl⟩ := hrel
  by_cases hlt : i < len
  ·obtain ⟨ad, rfl, r0⟩ := Kd.at_int HW.out (i : Int) (by omega) (by have := HLEN.out; omega)
   have r0' : wr.cell? (ad.add i) = some (.int .i64 (rd rank i)) := r0
   have hi0 : (0 : Int) ≤ (i : Int) := Int.natCast_nonneg _
   have hi1 : (i : Int) < (len : Int) := by omega
   clear r0
   by_cases h0 : rd rank i = k
   ·have e0 : (rd rank i == k) = true := by simp [h0]
    have HFIN := Lib.hid h0
    clear h0
    go_wp2_with fail
    (try rw [Exit.noGoto_ret])
    go_ret
    exact ⟨_, rfl, .inr ⟨i, rfl, hlt, HFIN.out⟩, HB.out⟩
   ·have e0 : (rd rank i == k) = false := by simp [h0]
    clear h0
    go_wp2_with fail
    go_roundw
    case measure => simp [intOf]; omega
    case rel => exact ⟨i + 1, by go_num, by omega, (by first | rfl | trivial)⟩
  ·have hil : len ≤ i := by omega
   go_wp2_with fail
   go_ret
   exact ⟨_, rfl, .inl rfl, HB.out⟩
theorem rplace_walk (w : World) (rA wA : Option Addr) (rc wc rn wn : Nat) (hn : rn ≤ 1000000) (v : Int) :
  Calls Tryz.prog 131 #[.agg #[.slice rA rn rc, .slice wA wn wc], .int .i64 v] w fun r w' => r = .returned (.bool (decide (0 ≤ v ∧ v < rn))) ∧ Below w.heap.size w w' := by
 have HB : Hid (Below w.heap.size w (w.alloc (.cells #[.slice rA rn rc, .slice wA wn wc] 31))) := Lib.hid ((Below.refl _ _).alloc (Nat.le_refl _) _)
 have hbox := blk_new w (.cells #[.slice rA rn rc, .slice wA wn wc] 31)
 have c1 := (blk_cell hbox 0).trans rfl
 have hlt : w.heap.size < (w.alloc (.cells #[.slice rA rn rc, .slice wA wn wc] 31)).heap.size := by simp
 clear hbox
 have HX : Hid (∃ B, decide (0 ≤ v ∧ v < rn) = B) := Lib.hid ⟨_, rfl⟩
 obtain ⟨B, hB⟩ := HX.out
 rw [hB]
 clear HX
 by_cases h0 : 0 ≤ v
 ·have HD : Hid (B = decide (v < rn)) := Lib.hid (by rw [← hB]; simp [h0])
  clear hB
  go_enter Tryz.func131, Tryz.ntmps131
  go_wp2_with fail
  go_ret
  exact ⟨by rw [HD.out]; rfl, HB.out⟩
 ·have HD : Hid (B = false) := Lib.hid (by rw [← hB]; simp [h0])
  clear hB
  go_enter Tryz.func131, Tryz.ntmps131
  go_wp2_with fail
  go_ret
  exact ⟨by rw [HD.out]; rfl, HB.out⟩
structure RB (w W : World) (s1 s2 : Value) (a b x y z : Int) : Prop where
 B0 : W.heap[w.heap.size]? = some (.cells #[s1, s2] 31 (0, 0))
 B1 : W.heap[w.heap.size + 1]? = some (.cells #[.int .i64 a, .int .i64 b, .int .i64 x, .int .i64 y, .int .i64 z] 71 (0, 0))
 bel : Below w.heap.size w W
theorem RB.below {w W W' : World} {s1 s2 : Value} {a b x y z : Int} (h : RB w W s1 s2 a b x y z) (g : Below W.heap.size W W') : RB w W' s1 s2 a b x y z :=
 ⟨(g.block _ (blk_lt h.B0)).trans h.B0, (g.block _ (blk_lt h.B1)).trans h.B1, h.bel.trans (g.mono h.bel.size)⟩
theorem RB.cells {w W : World} {s1 s2 : Value} {a b x y z : Int} (h : RB w W s1 s2 a b x y z) :
  W.cell? ⟨w.heap.size, 0, none⟩ = some s1 ∧ W.cell? ⟨w.heap.size, 1, none⟩ = some s2 ∧ W.cell? ⟨w.heap.size + 1, 0, none⟩ = some (.int .i64 a) ∧ W.cell? ⟨w.heap.size + 1, 1, none⟩ = some (.int .i64 b) ∧
   W.cell? ⟨w.heap.size + 1, 2, none⟩ = some (.int .i64 x) ∧ W.cell? ⟨w.heap.size + 1, 3, none⟩ = some (.int .i64 y) ∧ W.cell? ⟨w.heap.size + 1, 4, none⟩ = some (.int .i64 z) ∧ w.heap.size < W.heap.size ∧ w.heap.size + 1 < W.heap.size :=
 ⟨(blk_cell h.B0 0).trans rfl, (blk_cell h.B0 1).trans rfl, (blk_cell h.B1 0).trans rfl, (blk_cell h.B1 1).trans rfl, (blk_cell h.B1 2).trans rfl, (blk_cell h.B1 3).trans rfl, (blk_cell h.B1 4).trans rfl, blk_lt h.B0, blk_lt h.B1⟩
theorem RB.drewN {w W : World} {s1 s2 : Value} {a b x y z : Int} (h : RB w W s1 s2 a b x y z) (j : Nat) : RB w (W.drewN j) s1 s2 a b x y z := h.below (pw_below_drewN (Below.refl _ _) j)
theorem rank_cell {w W : World} {rA : Option Addr} {rank : List Int} (hr : Kd.C (Kd.int .i64) w rA rank.length rank) (g : Below w.heap.size w W) (v : Int) (h0 : 0 ≤ v) (h1 : v < rank.length) :
  ∃ ad, rA = some ad ∧ W.cell? (ad.add v.toNat) = some (.int .i64 (rd rank v)) := by
 obtain ⟨ad, e, hc⟩ := Kd.at_int (Kd.C_below hr g) v h0 h1
 exact ⟨ad, e, hc⟩
def RPost (w : World) (n : Nat) (rank : List Int) (ways : List S71) (i : Nat) (r : Ending) (w' : World) : Prop := ∃ b, r = .returned (.bool b) ∧ (b = true → RightOk n rank ways i) ∧ Below w.heap.size w w'
theorem RPost.mk {w : World} {n : Nat} {rank : List Int} {ways : List S71} {i : Nat} {r : Ending} {w' : World} (b : Bool) (h1 : r = .returned (.bool b)) (h2 : b = true → RightOk n rank ways i) (h3 : Below w.heap.size w w') : RPost w n rank ways i r w' := ⟨b, h1, h2, h3⟩
set_option maxRecDepth 100000 in
set_option maxHeartbeats 4000000 in
theorem rright_walk (w : World) (rA wA : Option Addr) (rc wc : Nat) (rank : List Int) (ways : List S71) (hr : Kd.C (Kd.int .i64) w rA rank.length rank) (hw : Kd.C k71 w wA ways.length ways) (hn : rank.length ≤ 1000) (hf : ways.length ≤ 1000) (i : Nat) (hi : i < ways.length) :
  Calls Tryz.prog 107 #[.agg #[.slice rA rank.length rc, .slice wA ways.length wc], .int .i64 i] w fun r w' => RPost w rank.length rank ways i r w' := by
 have g1 : Below w.heap.size w (w.alloc (.cells #[.slice rA rank.length rc, .slice wA ways.length wc] 31)) := (Below.refl _ _).alloc (Nat.le_refl _) _
 obtain ⟨ad, hAd, r0, r1, r2, r3, r4⟩ := at_T71 (Kd.C_below hw g1) (i : Int) (by omega) (by omega)
 simp only [Int.toNat_natCast] at r0 r1 r2 r3 r4
 have HE : Hid (∃ e, rd_T71 ways (i : Int) = e) := Lib.hid ⟨_, rfl⟩
 obtain ⟨⟨a, b, x, y, z⟩, hE⟩ := HE.out
 rw [hE] at r0 r1 r2 r3 r4
 simp only at r0 r1 r2 r3 r4
 have HEQ := Lib.hid hE
 clear HE hE g1
 have hP0 : Hid (∃ p, decide (0 ≤ a ∧ a < rank.length) = p) := Lib.hid ⟨_, rfl⟩
 have hP1 : Hid (∃ p, decide (0 ≤ b ∧ b < rank.length) = p) := Lib.hid ⟨_, rfl⟩
 have hP2 : Hid (∃ p, decide (0 ≤ y ∧ y < rank.length) = p) := Lib.hid ⟨_, rfl⟩
 obtain ⟨p0, q0⟩ := hP0.out
 obtain ⟨p1, q1⟩ := hP1.out
 obtain ⟨p2, q2⟩ := hP2.out
 have Q0 := Lib.hid q0
 have Q1 := Lib.hid q1
 have Q2 := Lib.hid q2
 have HP0 : Hid (∀ W, Calls Tryz.prog 131 #[.agg #[.slice rA rank.length rc, .slice wA ways.length wc], .int .i64 a] W fun r w' => r = .returned (.bool p0) ∧ Below W.heap.size W w') := Lib.hid (fun W => by rw [← q0]; exact rplace_walk W rA wA rc wc _ _ (by omega) a)
 have HP1 : Hid (∀ W, Calls Tryz.prog 131 #[.agg #[.slice rA rank.length rc, .slice wA ways.length wc], .int .i64 b] W fun r w' => r = .returned (.bool p1) ∧ Below W.heap.size W w') := Lib.hid (fun W => by rw [← q1]; exact rplace_walk W rA wA rc wc _ _ (by omega) b)
 have HP2 : Hid (∀ W, Calls Tryz.prog 131 #[.agg #[.slice rA rank.length rc, .slice wA ways.length wc], .int .i64 y] W fun r w' => r = .returned (.bool p2) ∧ Below W.heap.size W w') := Lib.hid (fun W => by rw [← q2]; exact rplace_walk W rA wA rc wc _ _ (by omega) y)
 have HF : Hid (∀ W, Below w.heap.size w W → ∀ u v : Int, Calls Tryz.prog 132 #[.agg #[.slice rA rank.length rc, .slice wA ways.length wc], .int .i64 u, .int .i64 v] W fun r w' => ∃ x, r = .returned (.int .i64 x) ∧ FindIs ways u v x ∧ Below W.heap.size W w') := Lib.hid (fun W g u v => rfind_walk W rA wA rc wc _ ways (Kd.C_below hw g) (by omega) u v)
 have HRK : Hid (∀ W, Below w.heap.size w W → ∀ v : Int, decide (0 ≤ v ∧ v < rank.length) = true → ∃ ad, rA = some ad ∧ 0 ≤ v ∧ v < rank.length ∧ W.cell? (ad.add v.toNat) = some (.int .i64 (rd rank v))) := Lib.hid (fun W g v hv => by
  have hv := of_decide_eq_true hv
  obtain ⟨ad, e, hc⟩ := rank_cell hr g v hv.1 hv.2
  exact ⟨ad, e, hv.1, hv.2, hc⟩)
 have HWC : Hid (∀ W, Below w.heap.size w W → ∀ k : Nat, k < ways.length → W.cell? ⟨(ad.add (k * 5)).block, (ad.add (k * 5)).off + 2, none⟩ = some (.int .i64 (rd_T71 ways (k : Int)).f2.f0)) := Lib.hid (fun W g k hk => by
  obtain ⟨ad', e, _, _, h2, _, _⟩ := at_T71 (Kd.C_below hw g) (k : Int) (by omega) (by omega)
  rw [hAd] at e
  obtain rfl := Option.some.inj e
  simpa using h2)
 subst hAd
 have HR0 : Hid (RB w (((w.alloc (.cells #[.slice rA rank.length rc, .slice (some ad) ways.length wc] 31)).alloc (.cells #[.int .i64 a, .int .i64 b, .int .i64 x, .int .i64 y, .int .i64 z] 71))) (.slice rA rank.length rc) (.slice (some ad) ways.length wc) a b x y z) := Lib.hid (by
  refine ⟨blk_alloc (blk_new w _) _, ?_, ((Below.refl _ w).alloc (Nat.le_refl _) _).alloc (by simp) _⟩
  have := blk_new (w.alloc (.cells #[.slice rA rank.length rc, .slice (some ad) ways.length wc] 31)) (.cells #[.int .i64 a, .int .i64 b, .int .i64 x, .int .i64 y, .int .i64 z] 71)
  rwa [World.size_alloc] at this)
 have bx := (blk_cell (blk_new w (.cells #[.slice rA rank.length rc, .slice (some ad) ways.length wc] 31)) 1).trans rfl
 have hlt : w.heap.size < (w.alloc (.cells #[.slice rA rank.length rc, .slice (some ad) ways.length wc] 31)).heap.size := by simp
 have lad : ad.block < (w.alloc (.cells #[.slice rA rank.length rc, .slice (some ad) ways.length wc] 31)).heap.size := by
  have h := World.block_lt_of_cell? _ (ad.add (i * 5)) r0
  have e : (ad.add (i * 5)).block = ad.block := by unfold Addr.add; split <;> rfl
  rwa [e] at h
 have hi0 : (0 : Int) ≤ (i : Int) := Int.natCast_nonneg _
 have hi1 : (i : Int) < ((ways.length : Nat) : Int) := by omega
 clear hr hw q0 q1 q2 hP0 hP1 hP2
 generalize elw : ways.length = lw at *
 generalize elr : rank.length = lr at *
 have ELW := Lib.hid elw
 have ELR := Lib.hid elr
 clear elw elr
 go_enter Tryz.func107, Tryz.ntmps107
 go_wp2_with fail
 generalize ((w.alloc (.cells #[.slice rA lr rc, .slice (some ad) lw wc] 31)).alloc (.cells #[.int .i64 a, .int .i64 b, .int .i64 x, .int .i64 y, .int .i64 z] 71)) = W2 at *
 clear bx hlt lad r0 r1 r2 r3 r4
 have HR2 : Hid (RB w W2 (.slice rA lr rc) (.slice (some ad) lw wc) a b x y z) := HR0
 clear HR0
 obtain ⟨c0, c1, d0, d1, d2, d3, d4, l0, l1⟩ := HR2.out.cells
 go_wp2_with fail
 refine (HP0.out _).mono ?_
 rintro e W3 ⟨rfl, g⟩
 have HR3 := Lib.hid (HR2.out.below g)
 clear c0 c1 d0 d1 d2 d3 d4 l0 l1 g
 obtain ⟨c0, c1, d0, d1, d2, d3, d4, l0, l1⟩ := HR3.out.cells
 cases p0 with
 | false =>
  go_wp2_with fail
  all_goals (try rw [Exit.noGoto_ret])
  all_goals go_ret
  all_goals exact RPost.mk false rfl (fun h => by cases h) HR3.out.bel
 | true =>
  go_wp2_with fail
  refine (HP1.out _).mono ?_
  rintro e W4 ⟨rfl, g⟩
  have HR4 := Lib.hid (HR3.out.below g)
  clear c0 c1 d0 d1 d2 d3 d4 l0 l1 g
  obtain ⟨c0, c1, d0, d1, d2, d3, d4, l0, l1⟩ := HR4.out.cells
  cases p1 with
  | false =>
   go_wp2_with fail
   all_goals (try rw [Exit.noGoto_ret])
   all_goals go_ret
   all_goals exact RPost.mk false rfl (fun h => by cases h) HR4.out.bel
  | true =>
   by_cases hab : a = b
   ·have e1 : (a == b) = true := by simp [hab]
    clear hab
    go_wp2_with fail
    all_goals (try rw [Exit.noGoto_ret])
    all_goals go_ret
    all_goals exact RPost.mk false rfl (fun h => by cases h) HR4.out.bel
   have e1 : (a == b) = false := by simp [hab]
   by_cases hx0 : x < 0
   ·have e2 : decide (x < 0) = true := by simp [hx0]
    go_wp2_with fail
    all_goals (try rw [Exit.noGoto_ret])
    all_goals go_ret
    all_goals exact RPost.mk false rfl (fun h => by cases h) HR4.out.bel
   have e2 : decide (x < 0) = false := by simp [hx0]
   by_cases hx1 : x > 1152921504606846976
   ·have e3 : decide (x > 1152921504606846976) = true := by simp [hx1]
    go_wp2_with fail
    all_goals (try rw [Exit.noGoto_ret])
    all_goals go_ret
    all_goals exact RPost.mk false rfl (fun h => by cases h) HR4.out.bel
   have e3 : decide (x > 1152921504606846976) = false := by simp [hx1]
   have HAB := Lib.hid hab
   have HX := Lib.hid (And.intro hx0 hx1)
   clear hab hx0 hx1
   go_wp2_with fail
   refine (HF.out _ HR4.out.bel a b).mono ?_
   rintro e W5 ⟨f, rfl, hf, g⟩
   have HR5 := Lib.hid (HR4.out.below g)
   clear c0 c1 d0 d1 d2 d3 d4 l0 l1 g
   obtain ⟨c0, c1, d0, d1, d2, d3, d4, l0, l1⟩ := HR5.out.cells
   have HFI := Lib.hid hf
   clear hf e1 e2 e3
   by_cases hfi : f = i
   rotate_left
   ·have e4 : (f == (i : Int)) = false := by simp [hfi]
    have e5 : (f != (i : Int)) = true := by simp [hfi]
    clear hfi
    go_wp2_with fail
    all_goals (try rw [Exit.noGoto_ret])
    all_goals go_ret
    all_goals exact RPost.mk false rfl (fun h => by cases h) HR5.out.bel
   have e4 : (f == (i : Int)) = true := by simp [hfi]
   have e5 : (f != (i : Int)) = false := by simp [hfi]
   have HONCE : Hid (∀ j : Nat, j < i → ¬ EndsAt ways a b j) := Lib.hid (by
    rcases HFI.out with ⟨h, _⟩ | ⟨k, h, _, _, h4⟩
    ·omega
    ·have : k = i := by omega
     subst this; exact h4)
   clear hfi HFI
   by_cases hy : y = -1
   ·have e6 : (y == -1) = true := by simp [hy]
    by_cases hz : 0 ≤ z ∧ z < 67108864
    ·have e7 : decide (z ≥ 0) = true := by simp [hz.1]
     have e8 : decide (z < 67108864) = true := by simp [hz.2]
     have HFIN : Hid (RightOk lr rank ways i) := Lib.hid (by
      refine ⟨?_, ?_, ?_, ?_⟩
      ·rw [HEQ.out]; have h0 := of_decide_eq_true Q0.out; have h1 := of_decide_eq_true Q1.out; have := HAB.out; exact ⟨h0.1, h0.2, h1.1, h1.2, this⟩
      ·rw [HEQ.out]; have := HX.out; exact ⟨by simp only; omega, by simp only; omega⟩
      ·rw [HEQ.out]; exact HONCE.out
      ·rw [HEQ.out]; exact .inl ⟨hy, hz⟩)
     clear hy hz
     go_wp2_with fail
     all_goals (try rw [Exit.noGoto_ret])
     all_goals go_ret
     all_goals exact RPost.mk true rfl (fun _ => HFIN.out) HR5.out.bel
    ·clear HEQ
     by_cases hz0 : 0 ≤ z
     ·have e7 : decide (z ≥ 0) = true := by simp [hz0]
      have e8 : decide (z < 67108864) = false := by simp; omega
      clear hz hy
      go_wp2_with fail
      all_goals (try rw [Exit.noGoto_ret])
      all_goals go_ret
      all_goals exact RPost.mk false rfl (fun h => by cases h) HR5.out.bel
     ·have e7 : decide (z ≥ 0) = false := by simp; omega
      clear hz hy
      go_wp2_with fail
      all_goals (try rw [Exit.noGoto_ret])
      all_goals go_ret
      all_goals exact RPost.mk false rfl (fun h => by cases h) HR5.out.bel
   have e6 : (y == -1) = false := by simp [hy]
   have HY := Lib.hid hy
   clear hy
   go_wp2_with fail
   by_cases hz : z = -1
   rotate_left
   ·have e7 : (z == -1) = false := by simp [hz]
    have e8 : (z != -1) = true := by simp [hz]
    clear hz
    go_region
    have HR5' := Lib.hid (HR5.out.drewN 1)
    go_wp2_with fail
    all_goals (try rw [Exit.noGoto_ret])
    all_goals go_ret
    all_goals exact RPost.mk false rfl (fun h => by cases h) HR5'.out.bel
   subst hz
   have e7 : ((-1 : Int) == -1) = true := rfl
   have e8 : ((-1 : Int) != -1) = false := rfl
   cases p2 with
   | false =>
    refine start_ (n := 44) (S := fun w' => w'.cell? ⟨w.heap.size, 0, none⟩ = some (.slice rA lr rc) ∧ w'.cell? ⟨w.heap.size, 1, none⟩ = some (.slice (some ad) lw wc) ∧ w'.cell? ⟨w.heap.size + 1, 0, none⟩ = some (.int .i64 a) ∧ w'.cell? ⟨w.heap.size + 1, 1, none⟩ = some (.int .i64 b) ∧ w'.cell? ⟨w.heap.size + 1, 3, none⟩ = some (.int .i64 y) ∧ w'.cell? ⟨w.heap.size + 1, 4, none⟩ = some (.int .i64 (-1))) (ds := []) (bA_ 44 0) (by kernel_rfl) rfl rfl ⟨c0, c1, d0, d1, d3, d4⟩ (fun hHeld => ?_)
    refine p2_ 0 68 (bA_ 44 1) ?_
    refine p2_ 1 69 (bA_ 44 3) ?_
    refine t2_ 2 70 (bA_ 44 7) hHeld ?_ (hy := by rintro w' ⟨s0, s1, s2, s3, s4, s5⟩; go_simp; with_reducible rfl)
    refine p2_ 3 71 (bA_ 44 15) ?_
    refine p2_ 4 72 (bA_ 44 31) ?_
    refine p2_ 6 74 (bA_ 44 95) ?_
    refine p2_ 7 75 (bA_ 44 223) ?_
    refine t2_ 5 73 (bA_ 44 255) hHeld ?_ (hy := by rintro w' ⟨s0, s1, s2, s3, s4, s5⟩; go_simp; with_reducible rfl)
    refine t2_ 8 76 (bA_ 44 511) hHeld ?_ (hy := by rintro w' ⟨s0, s1, s2, s3, s4, s5⟩; go_simp; with_reducible rfl)
    refine o2_ 9 77 (bA_ 44 1023) (fun K hK => ?_)
    refine g2_ Tryz.func131 #[.agg #[.slice rA lr rc, .slice (some ad) lw wc], .int .i64 y] ?_
    with_reducible refine (HP2.out _).mono ?_
    rintro e W6 ⟨rfl, g6⟩
    refine ⟨_, rfl, ?_⟩
    have HR6 := Lib.hid ((HR5.out.drewN 1).below g6)
    refine hK.out _ _ ⟨(HR6.out.cells).1, (HR6.out.cells).2.1, (HR6.out.cells).2.2.1, (HR6.out.cells).2.2.2.1, (HR6.out.cells).2.2.2.2.2.1, (HR6.out.cells).2.2.2.2.2.2.1⟩ (fun hHeld => ?_)
    clear hK K
    refine n2_ 77 ?_
    refine p2_ 10 78 (bA_ 44 2047) ?_
    refine p2_ 11 79 (bA_ 44 4095) ?_
    refine p2_ 12 80 (bA_ 44 8191) ?_
    refine pu2_ 13 81 (bA_ 44 16383) ?_
    refine pu2_ 14 82 (bA_ 44 32767) ?_
    refine pu2_ 15 83 (bA_ 44 65535) ?_
    refine pu2_ 16 84 (bA_ 44 131071) ?_
    refine pu2_ 17 85 (bA_ 44 262143) ?_
    refine pu2_ 18 86 (bA_ 44 524287) ?_
    refine pu2_ 19 87 (bA_ 44 1048575) ?_
    refine pu2_ 20 88 (bA_ 44 2097151) ?_
    refine pu2_ 21 89 (bA_ 44 4194303) ?_
    refine pu2_ 22 90 (bA_ 44 8388607) ?_
    refine pu2_ 23 91 (bA_ 44 16777215) ?_
    refine pu2_ 24 92 (bA_ 44 33554431) ?_
    refine pu2_ 25 93 (bA_ 44 67108863) ?_
    refine pu2_ 26 94 (bA_ 44 134217727) ?_
    refine p2_ 27 95 (bA_ 44 268435455) ?_
    refine p2_ 28 96 (bA_ 44 536870911) ?_
    refine pu2_ 29 97 (bA_ 44 1073741823) ?_
    refine pu2_ 30 98 (bA_ 44 2147483647) ?_
    refine pu2_ 31 99 (bA_ 44 4294967295) ?_
    refine pu2_ 32 100 (bA_ 44 8589934591) ?_
    refine pu2_ 33 101 (bA_ 44 17179869183) ?_
    refine pu2_ 34 102 (bA_ 44 34359738367) ?_
    refine pu2_ 35 103 (bA_ 44 68719476735) ?_
    refine pu2_ 36 104 (bA_ 44 137438953471) ?_
    refine pu2_ 37 105 (bA_ 44 274877906943) ?_
    refine pu2_ 38 106 (bA_ 44 549755813887) ?_
    refine pu2_ 39 107 (bA_ 44 1099511627775) ?_
    refine pu2_ 40 108 (bA_ 44 2199023255551) ?_
    refine pu2_ 41 109 (bA_ 44 4398046511103) ?_
    refine pu2_ 42 110 (bA_ 44 8796093022207) ?_
    refine p2_ 43 111 (bA_ 44 17592186044415) ?_
    refine done_ (by kernel_rfl) ?_
    go_wp2_with fail
    all_goals (try rw [Exit.noGoto_ret])
    all_goals go_ret
    all_goals exact RPost.mk false rfl (fun h => by cases h) HR6.out.bel
   | true =>
    obtain ⟨rad, rfl, ha0, ha1, ka⟩ := HRK.out W5 HR5.out.bel a Q0.out
    obtain ⟨rad', hrad, hy0, hy1, ky⟩ := HRK.out W5 HR5.out.bel y Q2.out
    obtain rfl := Option.some.inj hrad
    obtain ⟨rad', hrad', hb0, hb1, kb⟩ := HRK.out W5 HR5.out.bel b Q1.out
    obtain rfl := Option.some.inj hrad'
    have HKA : Hid (∀ W, Below w.heap.size w W → W.cell? (rad.add a.toNat) = some (.int .i64 (rd rank a))) := Lib.hid (fun W g => by
     obtain ⟨r', e, _, _, hc⟩ := HRK.out W g a Q0.out
     obtain rfl := Option.some.inj e; exact hc)
    have HKB : Hid (∀ W, Below w.heap.size w W → W.cell? (rad.add b.toNat) = some (.int .i64 (rd rank b))) := Lib.hid (fun W g => by
     obtain ⟨r', e, _, _, hc⟩ := HRK.out W g b Q1.out
     obtain rfl := Option.some.inj e; exact hc)
    have HKY : Hid (∀ W, Below w.heap.size w W → W.cell? (rad.add y.toNat) = some (.int .i64 (rd rank y))) := Lib.hid (fun W g => by
     obtain ⟨r', e, _, _, hc⟩ := HRK.out W g y Q2.out
     obtain rfl := Option.some.inj e; exact hc)
    have HRA : Hid (∃ q, rd rank a = q) := Lib.hid ⟨_, rfl⟩
    have HRBB : Hid (∃ q, rd rank b = q) := Lib.hid ⟨_, rfl⟩
    have HRY : Hid (∃ q, rd rank y = q) := Lib.hid ⟨_, rfl⟩
    obtain ⟨ra, era⟩ := HRA.out
    obtain ⟨rb, erb⟩ := HRBB.out
    obtain ⟨ry, ery⟩ := HRY.out
    rw [era] at ka HKA
    rw [erb] at kb HKB
    rw [ery] at ky HKY
    have ERA := Lib.hid era
    have ERB := Lib.hid erb
    have ERY := Lib.hid ery
    clear era erb ery HRA HRBB HRY hrad hrad' HRK
    by_cases hya : ry ≥ ra
    ·have e9 : decide (ry ≥ ra) = true := by simp; omega
     refine start_ (n := 44) (S := fun w' => w'.cell? ⟨w.heap.size, 0, none⟩ = some (.slice (some rad) lr rc) ∧ w'.cell? ⟨w.heap.size, 1, none⟩ = some (.slice (some ad) lw wc) ∧ w'.cell? ⟨w.heap.size + 1, 0, none⟩ = some (.int .i64 a) ∧ w'.cell? ⟨w.heap.size + 1, 1, none⟩ = some (.int .i64 b) ∧ w'.cell? ⟨w.heap.size + 1, 3, none⟩ = some (.int .i64 y) ∧ w'.cell? ⟨w.heap.size + 1, 4, none⟩ = some (.int .i64 (-1)) ∧ w'.cell? (rad.add y.toNat) = some (.int .i64 ry) ∧ w'.cell? (rad.add a.toNat) = some (.int .i64 ra) ∧ w'.cell? (rad.add b.toNat) = some (.int .i64 rb)) (ds := []) (bA_ 44 0) (by kernel_rfl) rfl rfl ⟨c0, c1, d0, d1, d3, d4, ky, ka, kb⟩ (fun hHeld => ?_)
     refine p2_ 0 68 (bA_ 44 1) ?_
     refine p2_ 1 69 (bA_ 44 3) ?_
     refine t2_ 2 70 (bA_ 44 7) hHeld ?_ (hy := by rintro w' ⟨s0, s1, s2, s3, s4, s5, s6, s7, s8⟩; go_simp; with_reducible rfl)
     refine p2_ 3 71 (bA_ 44 15) ?_
     refine p2_ 4 72 (bA_ 44 31) ?_
     refine p2_ 6 74 (bA_ 44 95) ?_
     refine p2_ 7 75 (bA_ 44 223) ?_
     refine t2_ 5 73 (bA_ 44 255) hHeld ?_ (hy := by rintro w' ⟨s0, s1, s2, s3, s4, s5, s6, s7, s8⟩; go_simp; with_reducible rfl)
     refine t2_ 8 76 (bA_ 44 511) hHeld ?_ (hy := by rintro w' ⟨s0, s1, s2, s3, s4, s5, s6, s7, s8⟩; go_simp; with_reducible rfl)
     refine o2_ 9 77 (bA_ 44 1023) (fun K hK => ?_)
     refine g2_ Tryz.func131 #[.agg #[.slice (some rad) lr rc, .slice (some ad) lw wc], .int .i64 y] ?_
     with_reducible refine (HP2.out _).mono ?_
     rintro e W6 ⟨rfl, g6⟩
     refine ⟨_, rfl, ?_⟩
     have HR6 := Lib.hid ((HR5.out.drewN 1).below g6)
     refine hK.out _ _ ⟨(HR6.out.cells).1, (HR6.out.cells).2.1, (HR6.out.cells).2.2.1, (HR6.out.cells).2.2.2.1, (HR6.out.cells).2.2.2.2.2.1, (HR6.out.cells).2.2.2.2.2.2.1, (HKY.out _ HR6.out.bel), (HKA.out _ HR6.out.bel), (HKB.out _ HR6.out.bel)⟩ (fun hHeld => ?_)
     clear hK K
     refine n2_ 77 ?_
     refine p2_ 10 78 (bA_ 44 2047) ?_
     refine p2_ 11 79 (bA_ 44 4095) ?_
     refine p2_ 12 80 (bA_ 44 8191) ?_
     refine p2_ 13 81 (bA_ 44 16383) ?_
     refine p2_ 15 83 (bA_ 44 49151) ?_
     refine p2_ 16 84 (bA_ 44 114687) ?_
     refine p2_ 20 88 (bA_ 44 1163263) ?_
     refine p2_ 22 90 (bA_ 44 5357567) ?_
     refine t2_ 14 82 (bA_ 44 5373951) hHeld ?_ (hy := by rintro w' ⟨s0, s1, s2, s3, s4, s5, s6, s7, s8⟩; go_simp; with_reducible rfl)
     refine t2_ 17 85 (bA_ 44 5505023) hHeld ?_ (hy := by rintro w' ⟨s0, s1, s2, s3, s4, s5, s6, s7, s8⟩; go_simp; with_reducible rfl)
     refine p2_ 18 86 (bA_ 44 5767167) ?_
     refine t2_ 19 87 (bA_ 44 6291455) hHeld ?_ (hy := by rintro w' ⟨s0, s1, s2, s3, s4, s5, s6, s7, s8⟩; go_simp; with_reducible rfl)
     refine t2_ 21 89 (bA_ 44 8388607) hHeld ?_ (hy := by rintro w' ⟨s0, s1, s2, s3, s4, s5, s6, s7, s8⟩; go_simp; with_reducible rfl)
     refine t2_ 23 91 (bA_ 44 16777215) hHeld ?_ (hy := by rintro w' ⟨s0, s1, s2, s3, s4, s5, s6, s7, s8⟩; go_simp; with_reducible rfl)
     refine p2_ 24 92 (bA_ 44 33554431) ?_
     refine t2_ 25 93 (bA_ 44 67108863) hHeld ?_ (hy := by rintro w' ⟨s0, s1, s2, s3, s4, s5, s6, s7, s8⟩; go_simp; with_reducible rfl)
     refine p2_ 26 94 (bA_ 44 134217727) ?_
     refine p2_ 27 95 (bA_ 44 268435455) ?_
     refine p2_ 28 96 (bA_ 44 536870911) ?_
     refine pu2_ 29 97 (bA_ 44 1073741823) ?_
     refine pu2_ 30 98 (bA_ 44 2147483647) ?_
     refine pu2_ 31 99 (bA_ 44 4294967295) ?_
     refine pu2_ 32 100 (bA_ 44 8589934591) ?_
     refine pu2_ 33 101 (bA_ 44 17179869183) ?_
     refine pu2_ 34 102 (bA_ 44 34359738367) ?_
     refine pu2_ 35 103 (bA_ 44 68719476735) ?_
     refine pu2_ 36 104 (bA_ 44 137438953471) ?_
     refine pu2_ 37 105 (bA_ 44 274877906943) ?_
     refine pu2_ 38 106 (bA_ 44 549755813887) ?_
     refine pu2_ 39 107 (bA_ 44 1099511627775) ?_
     refine pu2_ 40 108 (bA_ 44 2199023255551) ?_
     refine pu2_ 41 109 (bA_ 44 4398046511103) ?_
     refine pu2_ 42 110 (bA_ 44 8796093022207) ?_
     refine p2_ 43 111 (bA_ 44 17592186044415) ?_
     refine done_ (by kernel_rfl) ?_
     go_wp2_with fail
     all_goals (try rw [Exit.noGoto_ret])
     all_goals go_ret
     all_goals exact RPost.mk false rfl (fun h => by cases h) HR6.out.bel
    have e9 : decide (ry ≥ ra) = false := by simp; omega
    refine start_ (n := 44) (S := fun w' => w'.cell? ⟨w.heap.size, 0, none⟩ = some (.slice (some rad) lr rc) ∧ w'.cell? ⟨w.heap.size, 1, none⟩ = some (.slice (some ad) lw wc) ∧ w'.cell? ⟨w.heap.size + 1, 0, none⟩ = some (.int .i64 a) ∧ w'.cell? ⟨w.heap.size + 1, 1, none⟩ = some (.int .i64 b) ∧ w'.cell? ⟨w.heap.size + 1, 3, none⟩ = some (.int .i64 y) ∧ w'.cell? ⟨w.heap.size + 1, 4, none⟩ = some (.int .i64 (-1)) ∧ w'.cell? (rad.add y.toNat) = some (.int .i64 ry) ∧ w'.cell? (rad.add a.toNat) = some (.int .i64 ra) ∧ w'.cell? (rad.add b.toNat) = some (.int .i64 rb)) (ds := []) (bA_ 44 0) (by kernel_rfl) rfl rfl ⟨c0, c1, d0, d1, d3, d4, ky, ka, kb⟩ (fun hHeld => ?_)
    refine p2_ 0 68 (bA_ 44 1) ?_
    refine p2_ 1 69 (bA_ 44 3) ?_
    refine t2_ 2 70 (bA_ 44 7) hHeld ?_ (hy := by rintro w' ⟨s0, s1, s2, s3, s4, s5, s6, s7, s8⟩; go_simp; with_reducible rfl)
    refine p2_ 3 71 (bA_ 44 15) ?_
    refine p2_ 4 72 (bA_ 44 31) ?_
    refine p2_ 6 74 (bA_ 44 95) ?_
    refine p2_ 7 75 (bA_ 44 223) ?_
    refine t2_ 5 73 (bA_ 44 255) hHeld ?_ (hy := by rintro w' ⟨s0, s1, s2, s3, s4, s5, s6, s7, s8⟩; go_simp; with_reducible rfl)
    refine t2_ 8 76 (bA_ 44 511) hHeld ?_ (hy := by rintro w' ⟨s0, s1, s2, s3, s4, s5, s6, s7, s8⟩; go_simp; with_reducible rfl)
    refine o2_ 9 77 (bA_ 44 1023) (fun K hK => ?_)
    refine g2_ Tryz.func131 #[.agg #[.slice (some rad) lr rc, .slice (some ad) lw wc], .int .i64 y] ?_
    with_reducible refine (HP2.out _).mono ?_
    rintro e W6 ⟨rfl, g6⟩
    refine ⟨_, rfl, ?_⟩
    have HR6 := Lib.hid ((HR5.out.drewN 1).below g6)
    refine hK.out _ _ ⟨(HR6.out.cells).1, (HR6.out.cells).2.1, (HR6.out.cells).2.2.1, (HR6.out.cells).2.2.2.1, (HR6.out.cells).2.2.2.2.2.1, (HR6.out.cells).2.2.2.2.2.2.1, (HKY.out _ HR6.out.bel), (HKA.out _ HR6.out.bel), (HKB.out _ HR6.out.bel)⟩ (fun hHeld => ?_)
    clear hK K
    refine n2_ 77 ?_
    refine p2_ 10 78 (bA_ 44 2047) ?_
    refine p2_ 11 79 (bA_ 44 4095) ?_
    refine p2_ 12 80 (bA_ 44 8191) ?_
    refine p2_ 13 81 (bA_ 44 16383) ?_
    refine p2_ 15 83 (bA_ 44 49151) ?_
    refine p2_ 16 84 (bA_ 44 114687) ?_
    refine p2_ 20 88 (bA_ 44 1163263) ?_
    refine p2_ 22 90 (bA_ 44 5357567) ?_
    refine t2_ 14 82 (bA_ 44 5373951) hHeld ?_ (hy := by rintro w' ⟨s0, s1, s2, s3, s4, s5, s6, s7, s8⟩; go_simp; with_reducible rfl)
    refine t2_ 17 85 (bA_ 44 5505023) hHeld ?_ (hy := by rintro w' ⟨s0, s1, s2, s3, s4, s5, s6, s7, s8⟩; go_simp; with_reducible rfl)
    refine p2_ 18 86 (bA_ 44 5767167) ?_
    refine t2_ 19 87 (bA_ 44 6291455) hHeld ?_ (hy := by rintro w' ⟨s0, s1, s2, s3, s4, s5, s6, s7, s8⟩; go_simp; with_reducible rfl)
    refine t2_ 21 89 (bA_ 44 8388607) hHeld ?_ (hy := by rintro w' ⟨s0, s1, s2, s3, s4, s5, s6, s7, s8⟩; go_simp; with_reducible rfl)
    refine t2_ 23 91 (bA_ 44 16777215) hHeld ?_ (hy := by rintro w' ⟨s0, s1, s2, s3, s4, s5, s6, s7, s8⟩; go_simp; with_reducible rfl)
    refine p2_ 24 92 (bA_ 44 33554431) ?_
    refine t2_ 25 93 (bA_ 44 67108863) hHeld ?_ (hy := by rintro w' ⟨s0, s1, s2, s3, s4, s5, s6, s7, s8⟩; go_simp; with_reducible rfl)
    refine p2_ 26 94 (bA_ 44 134217727) ?_
    refine p2_ 27 95 (bA_ 44 268435455) ?_
    refine p2_ 28 96 (bA_ 44 536870911) ?_
    refine p2_ 29 97 (bA_ 44 1073741823) ?_
    refine p2_ 31 99 (bA_ 44 3221225471) ?_
    refine p2_ 32 100 (bA_ 44 7516192767) ?_
    refine p2_ 36 104 (bA_ 44 76235669503) ?_
    refine p2_ 38 106 (bA_ 44 351113576447) ?_
    refine t2_ 30 98 (bA_ 44 352187318271) hHeld ?_ (hy := by rintro w' ⟨s0, s1, s2, s3, s4, s5, s6, s7, s8⟩; go_simp; with_reducible rfl)
    refine t2_ 33 101 (bA_ 44 360777252863) hHeld ?_ (hy := by rintro w' ⟨s0, s1, s2, s3, s4, s5, s6, s7, s8⟩; go_simp; with_reducible rfl)
    refine p2_ 34 102 (bA_ 44 377957122047) ?_
    refine t2_ 35 103 (bA_ 44 412316860415) hHeld ?_ (hy := by rintro w' ⟨s0, s1, s2, s3, s4, s5, s6, s7, s8⟩; go_simp; with_reducible rfl)
    refine t2_ 37 105 (bA_ 44 549755813887) hHeld ?_ (hy := by rintro w' ⟨s0, s1, s2, s3, s4, s5, s6, s7, s8⟩; go_simp; with_reducible rfl)
    refine t2_ 39 107 (bA_ 44 1099511627775) hHeld ?_ (hy := by rintro w' ⟨s0, s1, s2, s3, s4, s5, s6, s7, s8⟩; go_simp; with_reducible rfl)
    refine p2_ 40 108 (bA_ 44 2199023255551) ?_
    refine t2_ 41 109 (bA_ 44 4398046511103) hHeld ?_ (hy := by rintro w' ⟨s0, s1, s2, s3, s4, s5, s6, s7, s8⟩; go_simp; with_reducible rfl)
    refine p2_ 42 110 (bA_ 44 8796093022207) ?_
    refine p2_ 43 111 (bA_ 44 17592186044415) ?_
    refine done_ (by kernel_rfl) ?_
    by_cases hyb : ry ≥ rb
    ·have e10 : decide (ry ≥ rb) = true := by simp; omega
     have e11 : decide (rb ≤ ry) = true := by simp; omega
     go_wp2_with fail
     all_goals (try rw [Exit.noGoto_ret])
     all_goals go_ret
     all_goals exact RPost.mk false rfl (fun h => by cases h) HR6.out.bel
    have e10 : decide (ry ≥ rb) = false := by simp; omega
    have e11 : decide (rb ≤ ry) = false := by simp; omega
    clear ka kb ky HKA HKB HKY c0 c1 d0 d1 d2 d3 d4 l0 l1
    obtain ⟨c0, c1, d0, d1, d2, d3, d4, l0, l1⟩ := HR6.out.cells
    go_wp2_with fail
    refine (HF.out _ HR6.out.bel a y).mono ?_
    rintro e W7 ⟨f1, rfl, hf1, g⟩
    have HR7 := Lib.hid (HR6.out.below g)
    clear c0 c1 d0 d1 d2 d3 d4 l0 l1 g
    obtain ⟨c0, c1, d0, d1, d2, d3, d4, l0, l1⟩ := HR7.out.cells
    go_wp2_with fail
    refine (HF.out _ HR7.out.bel y b).mono ?_
    rintro e W8 ⟨f2, rfl, hf2, g⟩
    have HR8 := Lib.hid (HR7.out.below g)
    clear c0 c1 d0 d1 d2 d3 d4 l0 l1 g
    obtain ⟨c0, c1, d0, d1, d2, d3, d4, l0, l1⟩ := HR8.out.cells
    have HF1 := Lib.hid hf1
    have HF2 := Lib.hid hf2
    clear hf1 hf2
    go_wp2_with fail
    rcases HF1.out with ⟨rfl, _⟩ | ⟨i1, rfl, hi1, he1, _⟩
    ·have t1 : decide ((-1 : Int) ≥ 0) = false := rfl
     go_region
     have HR9 := Lib.hid (HR8.out.drewN 1)
     go_wp2_with fail
     all_goals (try rw [Exit.noGoto_ret])
     all_goals go_ret
     all_goals exact RPost.mk false rfl (fun h => by cases h) HR9.out.bel
    rcases HF2.out with ⟨rfl, _⟩ | ⟨i2, rfl, hi2, he2, _⟩
    ·have t1 : decide ((-1 : Int) ≥ 0) = false := rfl
     have t2 : decide ((i1 : Int) ≥ 0) = true := by simp
     go_region
     have HR9 := Lib.hid (HR8.out.drewN 1)
     go_wp2_with fail
     all_goals (try rw [Exit.noGoto_ret])
     all_goals go_ret
     all_goals exact RPost.mk false rfl (fun h => by cases h) HR9.out.bel
    have t1 : decide ((i1 : Int) ≥ 0) = true := by simp
    have t2 : decide ((i2 : Int) ≥ 0) = true := by simp
    rw [ELW.out] at hi1 hi2
    have m1 := HWC.out W8 HR8.out.bel i1 (by have := ELW.out; omega)
    have m2 := HWC.out W8 HR8.out.bel i2 (by have := ELW.out; omega)
    have HM1 : Hid (∃ q, (rd_T71 ways (i1 : Int)).f2.f0 = q) := Lib.hid ⟨_, rfl⟩
    have HM2 : Hid (∃ q, (rd_T71 ways (i2 : Int)).f2.f0 = q) := Lib.hid ⟨_, rfl⟩
    obtain ⟨q1, eq1⟩ := HM1.out
    obtain ⟨q2, eq2⟩ := HM2.out
    rw [eq1] at m1
    rw [eq2] at m2
    have u1 : (0 : Int) ≤ (i1 : Int) := Int.natCast_nonneg _
    have u2 : (i1 : Int) < (lw : Int) := by omega
    have u3 : (0 : Int) ≤ (i2 : Int) := Int.natCast_nonneg _
    have u4 : (i2 : Int) < (lw : Int) := by omega
    have HFIN : Hid (decide (IntKind.i64.wrap (q1 + q2) = x) = true → RightOk lr rank ways i) := Lib.hid (fun h => by
     refine ⟨?_, ?_, ?_, ?_⟩
     ·rw [HEQ.out]; have h0 := of_decide_eq_true Q0.out; have h1 := of_decide_eq_true Q1.out; have := HAB.out; exact ⟨h0.1, h0.2, h1.1, h1.2, this⟩
     ·rw [HEQ.out]; have := HX.out; exact ⟨by simp only; omega, by simp only; omega⟩
     ·rw [HEQ.out]; exact HONCE.out
     ·rw [HEQ.out]
      have h2 := of_decide_eq_true Q2.out
      have hra := ERA.out
      have hrb := ERB.out
      have hry := ERY.out
      exact .inr ⟨HY.out, rfl, h2.1, h2.2, by simp only; omega, by simp only; omega, i1, i2, by have := ELW.out; omega, by have := ELW.out; omega, he1, he2, by rw [eq1, eq2]; exact of_decide_eq_true h⟩)
    obtain ⟨S, hS⟩ : ∃ S, IntKind.i64.wrap (q1 + q2) = S := ⟨_, rfl⟩
    rw [hS] at HFIN
    clear HM1 HM2 eq1 eq2
    by_cases hSx : S = x
    ·have t3 : (S == x) = true := by simp [hSx]
     have HFIN2 := Lib.hid (HFIN.out (by simp [hSx]))
     clear hSx
     go_region
     have HR9 := Lib.hid (HR8.out.drewN 1)
     go_wp2_with fail
     all_goals (try rw [Exit.noGoto_ret])
     all_goals go_ret
     all_goals exact RPost.mk true rfl (fun _ => HFIN2.out) HR9.out.bel
    ·have t3 : (S == x) = false := by simp [hSx]
     clear hSx
     go_region
     have HR9 := Lib.hid (HR8.out.drewN 1)
     go_wp2_with fail
     all_goals (try rw [Exit.noGoto_ret])
     all_goals go_ret
     all_goals exact RPost.mk false rfl (fun h => by cases h) HR9.out.bel
structure HBx (w W : World) (s1 s2 : Value) : Prop where
 B0 : W.heap[w.heap.size]? = some (.cells #[s1, s2] 31 (0, 0))
 bel : Below w.heap.size w W
theorem HBx.below {w W W' : World} {s1 s2 : Value} (h : HBx w W s1 s2) (g : Below W.heap.size W W') : HBx w W' s1 s2 :=
 ⟨(g.block _ (blk_lt h.B0)).trans h.B0, h.bel.trans (g.mono h.bel.size)⟩
theorem HBx.cells {w W : World} {s1 s2 : Value} (h : HBx w W s1 s2) : W.cell? ⟨w.heap.size, 0, none⟩ = some s1 ∧ W.cell? ⟨w.heap.size, 1, none⟩ = some s2 ∧ w.heap.size < W.heap.size :=
 ⟨(blk_cell h.B0 0).trans rfl, (blk_cell h.B0 1).trans rfl, blk_lt h.B0⟩
theorem HBx.new (w : World) (s1 s2 : Value) : HBx w (w.alloc (.cells #[s1, s2] 31)) s1 s2 := ⟨blk_new w _, (Below.refl _ _).alloc (Nat.le_refl _) _⟩
def CPost (w : World) (n : Nat) (rank : List Int) (ways : List S71) (r : Ending) (w' : World) : Prop :=
 ∃ x : Int, r = .returned (.int .i64 x) ∧ (x = 0 → (∀ k : Nat, k < n → ∃ v : Nat, v < n ∧ rd rank (v : Int) = k) ∧ ∀ i : Nat, i < ways.length → RightOk n rank ways i) ∧ Below w.heap.size w w'
theorem CPost.mk {w : World} {n : Nat} {rank : List Int} {ways : List S71} {r : Ending} {w' : World} (x : Int) (h1 : r = .returned (.int .i64 x))
  (h2 : x = 0 → (∀ k : Nat, k < n → ∃ v : Nat, v < n ∧ rd rank (v : Int) = k) ∧ ∀ i : Nat, i < ways.length → RightOk n rank ways i) (h3 : Below w.heap.size w w') : CPost w n rank ways r w' := ⟨x, h1, h2, h3⟩
set_option maxRecDepth 100000 in
set_option maxHeartbeats 2000000 in
theorem rcheck_walk (w : World) (rA wA : Option Addr) (rc wc : Nat) (rank : List Int) (ways : List S71) (hr : Kd.C (Kd.int .i64) w rA rank.length rank) (hw : Kd.C k71 w wA ways.length ways) (hn : rank.length ≤ 1000) (hf : ways.length ≤ 1000) :
  Calls Tryz.prog 61 #[.agg #[.slice rA rank.length rc, .slice wA ways.length wc]] w fun r w' => CPost w rank.length rank ways r w' := by
 have HAT : Hid (∀ W, Below w.heap.size w W → ∀ k : Int, Calls Tryz.prog 106 #[.agg #[.slice rA rank.length rc, .slice wA ways.length wc], .int .i64 k] W fun r w' => ∃ x, r = .returned (.int .i64 x) ∧ (x = -1 ∨ ∃ i : Nat, x = i ∧ i < rank.length ∧ rd rank (i : Int) = k) ∧ Below W.heap.size W w') := Lib.hid (fun W g k =>
  rat_walk W rA rc 0 (.slice wA ways.length wc) ⟨_, _, _, rfl⟩ rank (Kd.C_below hr g) (by omega) k)
 have HRT : Hid (∀ W, Below w.heap.size w W → ∀ i : Nat, i < ways.length → Calls Tryz.prog 107 #[.agg #[.slice rA rank.length rc, .slice wA ways.length wc], .int .i64 i] W fun r w' => RPost W rank.length rank ways i r w') := Lib.hid (fun W g i hi =>
  rright_walk W rA wA rc wc rank ways (Kd.C_below hr g) (Kd.C_below hw g) hn hf i hi)
 have HX0 := Lib.hid (HBx.new w (.slice rA rank.length rc) (.slice wA ways.length wc))
 clear hr hw
 have HLW : Hid (∃ l, ways.length = l) := Lib.hid ⟨_, rfl⟩
 generalize elr : rank.length = lr at *
 obtain ⟨lw, elw⟩ := HLW.out
 have ELW := Lib.hid elw
 have HRT' : Hid (∀ W, Below w.heap.size w W → ∀ i : Nat, i < lw → Calls Tryz.prog 107 #[.agg #[.slice rA lr rc, .slice wA lw wc], .int .i64 i] W fun r w' => RPost W lr rank ways i r w') := Lib.hid (by rw [← elw]; exact HRT.out)
 rw [elw] at HAT HX0 hf ⊢
 clear HLW elw elr HRT
 obtain ⟨c0, c1, l0⟩ := HX0.out.cells
 go_enter Tryz.func61, Tryz.ntmps61
 go_wp2_with fail
 generalize w.alloc (.cells #[.slice rA lr rc, .slice wA lw wc] 31) = W1 at *
 go_loopw [3] (fun v3 wr => ∃ k : Nat, v3 = .int .i64 k ∧ k ≤ lr ∧ Hid (HBx w wr (.slice rA lr rc) (.slice wA lw wc)) ∧ Hid (∀ j : Nat, j < k → ∃ v : Nat, v < lr ∧ rd rank (v : Int) = j)) (fun v3 _ => lr - (intOf v3).toNat)
 case atStart => exact ⟨0, rfl, by omega, HX0, Lib.hid (fun j h => by omega)⟩
 case round =>
  obtain ⟨k, rfl, hk, HX, HA⟩ := hrel
  clear c0 c1 l0
  obtain ⟨c0, c1, l0⟩ := HX.out.cells
  by_cases hlt : k < lr
  ·have hk0 : (0 : Int) ≤ (k : Int) := Int.natCast_nonneg _
   have hk1 : (k : Int) < (lr : Int) := by omega
   go_wp2_with fail
   refine (HAT.out _ HX.out.bel k).mono ?_
   rintro e W2 ⟨x, rfl, hx, g⟩
   have HX2 := Lib.hid (HX.out.below g)
   clear c0 c1 l0 g
   obtain ⟨c0, c1, l0⟩ := HX2.out.cells
   rcases hx with rfl | ⟨v, rfl, hv, hvk⟩
   ·have e1 : decide ((-1 : Int) < 0) = true := rfl
    go_wp2_with fail
    all_goals (try rw [Exit.noGoto_ret])
    all_goals go_ret
    all_goals exact CPost.mk 2 rfl (fun h => by cases h) HX2.out.bel
   ·have e1 : decide ((v : Int) < 0) = false := by simp
    have HA2 : Hid (∀ j : Nat, j < k + 1 → ∃ v : Nat, v < lr ∧ rd rank (v : Int) = j) := Lib.hid (fun j hj => by
     rcases Nat.lt_or_ge j k with h | h
     ·exact HA.out j h
     ·have : j = k := by omega
      subst this; exact ⟨v, hv, hvk⟩)
    clear hvk
    go_wp2_with fail
    go_roundw
    case measure => simp [intOf]; omega
    case rel => exact ⟨k + 1, by go_num, by omega, HX2, HA2⟩
  ·have HALL : Hid (∀ j : Nat, j < lr → ∃ v : Nat, v < lr ∧ rd rank (v : Int) = j) := Lib.hid (fun j hj => HA.out j (by omega))
   have hkl : lr ≤ k := by omega
   clear HA
   go_wp2_with fail
   go_loopw [4] (fun v4 wr => ∃ i : Nat, v4 = .int .i64 i ∧ i ≤ lw ∧ Hid (HBx w wr (.slice rA lr rc) (.slice wA lw wc)) ∧ Hid (∀ j : Nat, j < i → RightOk lr rank ways j)) (fun v4 _ => lw - (intOf v4).toNat)
   case atStart => exact ⟨0, rfl, by omega, HX, Lib.hid (fun j h => by omega)⟩
   case round =>
    obtain ⟨i, rfl, hi, HX3, HB⟩ := hrel
    clear c0 c1 l0
    obtain ⟨c0, c1, l0⟩ := HX3.out.cells
    by_cases hilt : i < lw
    ·have hi0 : (0 : Int) ≤ (i : Int) := Int.natCast_nonneg _
     have hi1 : (i : Int) < (lw : Int) := by omega
     go_wp2_with fail
     refine (HRT'.out _ HX3.out.bel i hilt).mono ?_
     rintro e W2 ⟨b, rfl, hb, g⟩
     have HX4 := Lib.hid (HX3.out.below g)
     have HBI := Lib.hid hb
     clear c0 c1 l0 g hb
     obtain ⟨c0, c1, l0⟩ := HX4.out.cells
     cases b with
     | false =>
      go_wp2_with fail
      all_goals (try rw [Exit.noGoto_ret])
      all_goals go_ret
      all_goals exact CPost.mk 2 rfl (fun h => by cases h) HX4.out.bel
     | true =>
      have HB2 : Hid (∀ j : Nat, j < i + 1 → RightOk lr rank ways j) := Lib.hid (fun j hj => by
       rcases Nat.lt_or_ge j i with h | h
       ·exact HB.out j h
       ·have : j = i := by omega
        subst this; exact HBI.out rfl)
      go_wp2_with fail
      go_roundw
      case measure => simp [intOf]; omega
      case rel => exact ⟨i + 1, by go_num, by omega, HX4, HB2⟩
    ·have HFIN : Hid (∀ j : Nat, j < ways.length → RightOk lr rank ways j) := Lib.hid (fun j hj => HB.out j (by have := ELW.out; omega))
     have hil : lw ≤ i := by omega
     go_wp2_with fail
     all_goals go_ret
     all_goals exact CPost.mk 0 rfl (fun _ => ⟨HALL.out, HFIN.out⟩) HX3.out.bel
def FPost (w : World) (n : Nat) (rank : List Int) (ways : List S71) (r : Ending) (w' : World) : Prop := ∃ b, r = .returned (.bool b) ∧ (b = true → VH n rank ways) ∧ Below w.heap.size w w'
theorem FPost.mk {w : World} {n : Nat} {rank : List Int} {ways : List S71} {r : Ending} {w' : World} (b : Bool) (h1 : r = .returned (.bool b)) (h2 : b = true → VH n rank ways) (h3 : Below w.heap.size w w') : FPost w n rank ways r w' := ⟨b, h1, h2, h3⟩
set_option maxRecDepth 100000 in
set_option maxHeartbeats 2000000 in
theorem fit_walk (w : World) (rA wA : Option Addr) (rc wc : Nat) (rank : List Int) (ways : List S71) (hr : Kd.C (Kd.int .i64) w rA rank.length rank) (hw : Kd.C k71 w wA ways.length ways) :
  Calls Tryz.prog 25 #[.agg #[.slice rA rank.length rc, .slice wA ways.length wc]] w fun r w' => FPost w rank.length rank ways r w' := by
 have HX0 := Lib.hid (HBx.new w (.slice rA rank.length rc) (.slice wA ways.length wc))
 have HW := Lib.hid hw
 by_cases h14 : rank.length > 14
 ·obtain ⟨c0, c1, l0⟩ := HX0.out.cells
  have e1 : decide ((rank.length : Int) > 14) = true := by simp; omega
  clear hr hw h14
  go_enter Tryz.func25, Tryz.ntmps25
  go_wp2_with fail
  all_goals go_ret
  all_goals exact FPost.mk false rfl (fun h => by cases h) HX0.out.bel
 ·by_cases h80 : ways.length > 80
  ·obtain ⟨c0, c1, l0⟩ := HX0.out.cells
   have e1 : decide ((rank.length : Int) > 14) = false := by simp; omega
   have e2 : decide ((ways.length : Int) > 80) = true := by simp; omega
   clear hr hw h14 h80
   go_enter Tryz.func25, Tryz.ntmps25
   go_wp2_with fail
   all_goals go_ret
   all_goals exact FPost.mk false rfl (fun h => by cases h) HX0.out.bel
  ·have HC := Lib.hid (rcheck_walk _ rA wA rc wc rank ways (Kd.C_below hr HX0.out.bel) (Kd.C_below hw HX0.out.bel) (by omega) (by omega))
   have e1 : decide ((rank.length : Int) > 14) = false := by simp; omega
   have e2 : decide ((ways.length : Int) > 80) = false := by simp; omega
   clear hr hw
   obtain ⟨c0, c1, l0⟩ := HX0.out.cells
   have HLW : Hid (∃ l, ways.length = l) := Lib.hid ⟨_, rfl⟩
   obtain ⟨lw, elw⟩ := HLW.out
   have HLR : Hid (∃ l, rank.length = l) := Lib.hid ⟨_, rfl⟩
   obtain ⟨lr, elr⟩ := HLR.out
   rw [elw] at HW HC HX0 e2 c1 l0 h80 ⊢
   rw [elr] at HC HX0 e1 c0 l0 h14 ⊢
   (try rw [elw] at c0)
   (try rw [elr] at c0)
   (try rw [elw] at c1)
   (try rw [elr] at c1)
   have ELW := Lib.hid elw
   have ELR := Lib.hid elr
   clear HLW HLR elw elr
   go_enter Tryz.func25, Tryz.ntmps25
   go_wp2_with fail
   refine HC.out.mono ?_
   rintro e W2 ⟨x, rfl, hx, g⟩
   have HXX := Lib.hid hx
   have HX2 := Lib.hid (HX0.out.below g)
   clear c0 c1 l0 g hx
   obtain ⟨c0, c1, l0⟩ := HX2.out.cells
   by_cases hx0 : x = 0
   ·subst hx0
    have HXY := Lib.hid (HXX.out rfl)
    clear HXX HC
    have hw0 : lw ≤ 80 := by omega
    have HN : Hid (lr ≤ 14) := Lib.hid (by omega)
    clear h14 h80
    go_wp2_with fail
    go_loopw [3] (fun v3 wr => ∃ i : Nat, v3 = .int .i64 i ∧ i ≤ lw ∧ wr = W2 ∧ Hid (∀ j : Nat, j < i → (rd_T71 ways (j : Int)).f2.f0 ≤ 1125899906842624)) (fun v3 _ => lw - (intOf v3).toNat)
    case atStart => exact ⟨0, rfl, by omega, rfl, Lib.hid (fun j h => by omega)⟩
    case round =>
     obtain ⟨i, rfl, hi, rfl, HB⟩ := hrel
     by_cases hilt : i < lw
     ·obtain ⟨ad, rfl, r0, r1, r2, r3, r4⟩ := at_T71 (Kd.C_below HW.out HX2.out.bel) (i : Int) (by omega) (by have := ELW.out; omega)
      simp only [Int.toNat_natCast] at r0 r1 r2 r3 r4
      have HEW : Hid (∃ q, (rd_T71 ways (i : Int)).f2.f0 = q) := Lib.hid ⟨_, rfl⟩
      obtain ⟨q, eq⟩ := HEW.out
      rw [eq] at r2
      have EQ := Lib.hid eq
      have hi0 : (0 : Int) ≤ (i : Int) := Int.natCast_nonneg _
      have hi1 : (i : Int) < (lw : Int) := by omega
      clear HEW eq r0 r1 r3 r4
      by_cases hq : q > 1125899906842624
      ·have e3 : decide (q > 1125899906842624) = true := by simpa using hq
       clear hq
       go_wp2_with fail
       all_goals (try rw [Exit.noGoto_ret])
       all_goals go_ret
       all_goals exact FPost.mk false rfl (fun h => by cases h) HX2.out.bel
      ·have e3 : decide (q > 1125899906842624) = false := by simpa using hq
       have HB2 : Hid (∀ j : Nat, j < i + 1 → (rd_T71 ways (j : Int)).f2.f0 ≤ 1125899906842624) := Lib.hid (fun j hj => by
        rcases Nat.lt_or_ge j i with h | h
        ·exact HB.out j h
        ·have : j = i := by omega
         subst this; rw [EQ.out]; omega)
       clear hq
       go_wp2_with fail
       go_roundw
       case measure => simp [intOf]; omega
       case rel => exact ⟨i + 1, by go_num, by omega, (by first | rfl | trivial), HB2⟩
     ·have HFIN : Hid (VH lr rank ways) := Lib.hid (vh_of HN.out (by have := ELW.out; omega) ELR.out HXY.out.1 HXY.out.2 (fun j hj => HB.out j (by have := ELW.out; omega)))
      have hil : lw ≤ i := by omega
      go_wp2_with fail
      all_goals go_ret
      all_goals exact FPost.mk true rfl (fun _ => HFIN.out) HX2.out.bel
   ·have e3 : (x == 0) = false := by simp [hx0]
    have e4 : (x != 0) = true := by simp [hx0]
    clear hx0 h14 h80
    go_wp2_with fail
    all_goals go_ret
    all_goals exact FPost.mk false rfl (fun h => by cases h) HX2.out.bel
end Go.Proofs.YtfkejflmhidnaaaGreat.PAll
