import Derived.Test.YtfkejflmhidnaaaGreatQNeP
set_option linter.all false
namespace Go.Proofs.YtfkejflmhidnaaaGreat.PAll
open RowKit YtfkejflmhidnaaaGreatW.PrintWords YtfkejflmhidnaaaGreatW.PrintLast YtfkejflmhidnaaaGreatW.PrintMore
open Hp hiding Good
structure U3 (w W : World) (g n : Nat) (S1 S2 S3 v1 v2 v3 : Value) (xs1 : List Int) (xs2 : List S156) (xs3 : List Int) : Prop where
 tb : TB W w.heap.size n S1 S2 S3
 zb : ZB W (w.heap.size + 1)
 gb : TB W g n v1 v2 v3
 gt : w.heap.size + 1 < g
 bel : Below w.heap.size w W
 r1 : Kd.R (Kd.int .i64) 3 W w.heap.size (fun k => some k ≠ v3.ownBlock) v1 xs1
 r2 : Kd.R k156 156 W w.heap.size (fun _ => True) v2 xs2
 r3 : Kd.R (Kd.int .i64) 3 W w.heap.size (fun k => some k ≠ v1.ownBlock) v3 xs3
section
variable {w W W' w2 : World} {g n : Nat} {S1 S2 S3 v1 v2 v3 : Value} {xs1 : List Int} {xs2 : List S156} {xs3 : List Int}
theorem U3.below (h : U3 w W g n S1 S2 S3 v1 v2 v3 xs1 xs2 xs3) (b : Below W.heap.size W W') : U3 w W' g n S1 S2 S3 v1 v2 v3 xs1 xs2 xs3 :=
 ⟨h.tb.below b, h.zb.below b, h.gb.below b, h.gt, h.bel.trans (b.mono h.bel.size), Kd.R_below h.r1 b, Kd.R_below h.r2 b, Kd.R_below h.r3 b⟩
theorem U3.mid1 (h : U3 w W g n S1 S2 S3 v1 v2 v3 xs1 xs2 xs3) (hg : W.grownBy w2 v1.ownBlock) : TB w2 g n v1 v2 v3 := (hg.block g (blk_lt h.gb) (Kd.R_ne h.r1 h.gb (by decide))).trans h.gb
theorem U3.app1 {p : Int} {v1' : Value} (h : U3 w W g n S1 S2 S3 v1 v2 v3 xs1 xs2 xs3) (hg : W.grownBy w2 v1.ownBlock) (hR : Kd.R (Kd.int .i64) 3 w2 w.heap.size (fun k => some k ≠ v3.ownBlock) v1' (xs1 ++ [p])) (hB : Below w.heap.size w w2) :
  U3 w (w2.setCell ⟨g, 1, none⟩ v1') g n S1 S2 S3 v1' v2 v3 (xs1 ++ [p]) xs2 xs3 := by
 have hgt := h.gt
 have hb := h.mid1 hg
 have ht : TB w2 w.heap.size n S1 S2 S3 := (hg.block _ (blk_lt h.tb) (Kd.R_ne h.r1 h.tb (by decide))).trans h.tb
 have hz : ZB w2 (w.heap.size + 1) := (hg.block _ (blk_lt h.zb) (Kd.R_ne h.r1 h.zb (by decide))).trans h.zb
 have r3 := Kd.R_grown h.r3 hg (fun k hk => hk)
 refine ⟨(Below.heap_setCell w2 ⟨g, 1, none⟩ _ _ (by simp; omega)).trans ht, (Below.heap_setCell w2 ⟨g, 1, none⟩ _ _ (by simp; omega)).trans hz, blk_put hb 1 v1' rfl, hgt, hB.setCell (p := ⟨g, 1, none⟩) (by simp; omega) _, Kd.R_set hR hb (by decide) 1 _, Kd.R_set (Kd.R_over h.r2 h.r1 (by decide) hg) hb (by decide) 1 _, ?_⟩
 exact Kd.R_set (Kd.R_reok (ok := fun k => some k ≠ v1'.ownBlock) rfl r3 (fun k hk e => hR.1 k e.symm hk.symm)) hb (by decide) 1 _
theorem U3.mid3 (h : U3 w W g n S1 S2 S3 v1 v2 v3 xs1 xs2 xs3) (hg : W.grownBy w2 v3.ownBlock) : TB w2 g n v1 v2 v3 := (hg.block g (blk_lt h.gb) (Kd.R_ne h.r3 h.gb (by decide))).trans h.gb
theorem U3.app3 {p : Int} {v3' : Value} (h : U3 w W g n S1 S2 S3 v1 v2 v3 xs1 xs2 xs3) (hg : W.grownBy w2 v3.ownBlock) (hR : Kd.R (Kd.int .i64) 3 w2 w.heap.size (fun k => some k ≠ v1.ownBlock) v3' (xs3 ++ [p])) (hB : Below w.heap.size w w2) :
  U3 w (w2.setCell ⟨g, 3, none⟩ v3') g n S1 S2 S3 v1 v2 v3' xs1 xs2 (xs3 ++ [p]) := by
 have hgt := h.gt
 have hb := h.mid3 hg
 have ht : TB w2 w.heap.size n S1 S2 S3 := (hg.block _ (blk_lt h.tb) (Kd.R_ne h.r3 h.tb (by decide))).trans h.tb
 have hz : ZB w2 (w.heap.size + 1) := (hg.block _ (blk_lt h.zb) (Kd.R_ne h.r3 h.zb (by decide))).trans h.zb
 have r1 := Kd.R_grown h.r1 hg (fun k hk => hk)
 refine ⟨(Below.heap_setCell w2 ⟨g, 3, none⟩ _ _ (by simp; omega)).trans ht, (Below.heap_setCell w2 ⟨g, 3, none⟩ _ _ (by simp; omega)).trans hz, blk_put hb 3 v3' rfl, hgt, hB.setCell (p := ⟨g, 3, none⟩) (by simp; omega) _, ?_, Kd.R_set (Kd.R_over h.r2 h.r3 (by decide) hg) hb (by decide) 3 _, Kd.R_set hR hb (by decide) 3 _⟩
 exact Kd.R_set (Kd.R_reok (ok := fun k => some k ≠ v3'.ownBlock) rfl r1 (fun k hk e => hR.1 k e.symm hk.symm)) hb (by decide) 3 _
theorem U3.mid2 (h : U3 w W g n S1 S2 S3 v1 v2 v3 xs1 xs2 xs3) (hg : W.grownBy w2 v2.ownBlock) : TB w2 g n v1 v2 v3 := (hg.block g (blk_lt h.gb) (Kd.R_ne h.r2 h.gb (by decide))).trans h.gb
theorem U3.app2 {p : S156} {v2' : Value} (h : U3 w W g n S1 S2 S3 v1 v2 v3 xs1 xs2 xs3) (hg : W.grownBy w2 v2.ownBlock) (hR : Kd.R k156 156 w2 w.heap.size (fun _ => True) v2' (xs2 ++ [p])) (hB : Below w.heap.size w w2) :
  U3 w (w2.setCell ⟨g, 2, none⟩ v2') g n S1 S2 S3 v1 v2' v3 xs1 (xs2 ++ [p]) xs3 := by
 have hgt := h.gt
 have hb := h.mid2 hg
 have ht : TB w2 w.heap.size n S1 S2 S3 := (hg.block _ (blk_lt h.tb) (Kd.R_ne h.r2 h.tb (by decide))).trans h.tb
 have hz : ZB w2 (w.heap.size + 1) := (hg.block _ (blk_lt h.zb) (Kd.R_ne h.r2 h.zb (by decide))).trans h.zb
 exact ⟨(Below.heap_setCell w2 ⟨g, 2, none⟩ _ _ (by simp; omega)).trans ht, (Below.heap_setCell w2 ⟨g, 2, none⟩ _ _ (by simp; omega)).trans hz, blk_put hb 2 v2' rfl, hgt, hB.setCell (p := ⟨g, 2, none⟩) (by simp; omega) _, Kd.R_set (Kd.R_over h.r1 h.r2 (by decide) hg) hb (by decide) 2 _, Kd.R_set hR hb (by decide) 2 _, Kd.R_set (Kd.R_over h.r3 h.r2 (by decide) hg) hb (by decide) 2 _⟩
theorem U3.done (h : U3 w W g n S1 S2 S3 v1 v2 v3 xs1 xs2 xs3) (h1 : xs1.length = n) (h3 : xs3.length = n) (hs : n ≤ 1000) (hf : xs2.length ≤ 1000000) : TR (put4 W (w.heap.size + 1) (.int .i64 n) v1 v2 v3) w.heap.size (fun _ => True) ⟨n, xs1, xs2, xs3⟩ v1 v2 v3 := by
 have z0 := blk_put h.zb 0 (.int .i64 n) rfl
 have z1 := blk_put z0 1 v1 rfl
 have z2 := blk_put z1 2 v2 rfl
 have r1 := Kd.R_set (Kd.R_set (Kd.R_set (Kd.R_set h.r1 h.zb (by decide) 0 (.int .i64 n)) z0 (by decide) 1 v1) z1 (by decide) 2 v2) z2 (by decide) 3 v3
 have r2 := Kd.R_set (Kd.R_set (Kd.R_set (Kd.R_set h.r2 h.zb (by decide) 0 (.int .i64 n)) z0 (by decide) 1 v1) z1 (by decide) 2 v2) z2 (by decide) 3 v3
 have r3 := Kd.R_set (Kd.R_set (Kd.R_set (Kd.R_set h.r3 h.zb (by decide) 0 (.int .i64 n)) z0 (by decide) 1 v1) z1 (by decide) 2 v2) z2 (by decide) 3 v3
 exact ⟨Kd.R_mono r1 (fun _ _ => trivial), r2, Kd.R_mono r3 (fun _ _ => trivial), h1, h3, hs, hf⟩
end
theorem cell_allocT {w : World} {p : Addr} {u : Value} {o : Obj} (h : w.cell? p = some u) : (w.alloc o).cell? p = some u := by
 have hb := World.block_lt_of_cell? w p h
 exact ((Below.refl w.heap.size w).alloc (Nat.le_refl _) o).cell hb ▸ h
theorem take_rd {l : List Int} {i : Nat} (h : i < l.length) : l.take (i + 1) = l.take i ++ [rd l (i : Int)] := by
 rw [rd_get h, List.take_succ_eq_append_getElem h]
def TakePost (w : World) (t : TP) (v : Int) (r : Ending) (w' : World) : Prop := ∃ (S1 S2 S3 : Value) (t' : TP), r = .returned (.tuple #[.agg #[.int .i64 t'.n, S1, S2, S3], .bool true]) ∧ TakeOk t v t' ∧ TR w' w.heap.size (fun _ => True) t' S1 S2 S3 ∧ Below w.heap.size w w'
set_option maxRecDepth 100000 in
set_option maxHeartbeats 4000000 in
theorem TV.take {w : World} {t : TP} {S1 S2 S3 : Value} (h : TV w t S1 S2 S3) (v : Nat) (hv : isP t (v : Int) = true) (hf : t.l.length ≤ 1000000) : Calls Tryz.prog 83 #[.agg #[.int .i64 t.n, S1, S2, S3], .int .i64 v] w fun r w' => TakePost w t v r w' := by
 have HIS : Hid (∀ W, Below w.heap.size w W → Calls Tryz.prog 114 #[.agg #[.int .i64 t.n, S1, S2, S3], .int .i64 v] W fun r w' => r = .returned (.bool true) ∧ Below W.heap.size W w') := Lib.hid (fun W g => by rw [← hv]; exact (h.below g).is v)
 have HWY : Hid (∀ W, Below w.heap.size w W → ∀ x y : Int, Calls Tryz.prog 81 #[.agg #[.int .i64 t.n, S1, S2, S3], .int .i64 x, .int .i64 y] W fun r w' => ∃ y0 y1 y2 b, r = .returned (.tuple #[.agg #[.int .i64 y0, .int .i64 y1, .int .i64 y2], .bool b]) ∧ Below W.heap.size W w') := Lib.hid (fun W g x y => ((h.below g).way x y).mono (fun r w' hh => by
  obtain ⟨h1, h2⟩ := hh
  cases ho : wayP t.l x y with
  | none => rw [ho] at h1; exact ⟨0, 0, 0, false, h1, h2⟩
  | some o => rw [ho] at h1; exact ⟨o.f0, o.f1, o.f2, true, h1, h2⟩))
 have hvn := (isP_in hv).2
 have hn1000 := h.small
 obtain ⟨A1, l1, k1, A2, len, k2, A3, l3, k3, hS1, hS2, hS3, hlen, hk2, hC2, hin, hlo, e1, e3, hk1, hk3, hC1, hC3⟩ := h.forms
 obtain ⟨n, inn, l, lost⟩ := t
 simp only at *
 have HC1 := Lib.hid hC1
 have HC2 := Lib.hid hC2
 have HC3 := Lib.hid hC3
 have HLEN := Lib.hid (And.intro hlen (And.intro hin hlo))
 obtain rfl : n = l1 := e1.symm
 obtain rfl : n = l3 := e3.symm
 subst hS1 hS2 hS3
 have hfl : len ≤ 1000000 := by omega
 clear hC1 hC2 hC3 h hv hin hlo hlen hf hk1 hk3
 have hvn' : v < n := by omega
 have HIN : Hid ((inn.set v 0).length = n) := Lib.hid (by rw [List.length_set]; exact HLEN.out.2.1)
 have HIR : Hid (∀ i : Nat, rd (inn.set v 0) (i : Int) = if (i : Int) = v then 0 else rd inn (i : Int)) := Lib.hid (fun i => by
  have hl := HLEN.out.2.1
  by_cases e : v = i
  ·subst e; rw [rd_set_same _ (by omega), if_pos rfl]
  ·rw [rd_set_other _ e, if_neg (by omega)])
 obtain ⟨inn', hinn'⟩ : ∃ x, inn.set v 0 = x := ⟨_, rfl⟩
 have HII := Lib.hid hinn'
 rw [hinn'] at HIN HIR
 clear hinn'
 have HB := Lib.hid (TB.new w n (.slice A1 n k1) (.slice A2 len k2) (.slice A3 n k3))
 have HBZ : Hid (TB ((w.alloc (.cells #[.int .i64 n, (.slice A1 n k1), (.slice A2 len k2), (.slice A3 n k3)] 121)).alloc (.cells #[.int .i64 0, .slice none 0 0, .slice none 0 0, .slice none 0 0] 121)) w.heap.size n (.slice A1 n k1) (.slice A2 len k2) (.slice A3 n k3)) := Lib.hid (blk_alloc HB.out _)
 have HZ : Hid (ZB ((w.alloc (.cells #[.int .i64 n, (.slice A1 n k1), (.slice A2 len k2), (.slice A3 n k3)] 121)).alloc (.cells #[.int .i64 0, .slice none 0 0, .slice none 0 0, .slice none 0 0] 121)) (w.heap.size + 1)) := Lib.hid (by have := blk_new (w.alloc (.cells #[.int .i64 n, (.slice A1 n k1), (.slice A2 len k2), (.slice A3 n k3)] 121)) (.cells #[.int .i64 0, .slice none 0 0, .slice none 0 0, .slice none 0 0] 121); rw [World.size_alloc] at this; exact this)
 have HG : Hid (Below w.heap.size w ((w.alloc (.cells #[.int .i64 n, (.slice A1 n k1), (.slice A2 len k2), (.slice A3 n k3)] 121)).alloc (.cells #[.int .i64 0, .slice none 0 0, .slice none 0 0, .slice none 0 0] 121))) := Lib.hid (((Below.refl _ _).alloc (Nat.le_refl _) _).alloc (by simp) _)
 have HSZ : Hid (w.heap.size + 2 ≤ ((w.alloc (.cells #[.int .i64 n, (.slice A1 n k1), (.slice A2 len k2), (.slice A3 n k3)] 121)).alloc (.cells #[.int .i64 0, .slice none 0 0, .slice none 0 0, .slice none 0 0] 121)).heap.size) := Lib.hid (by simp)
 obtain ⟨c0, c1, c2, c3, l0⟩ := HBZ.out.cells
 clear HB
 go_enter Tryz.func83, Tryz.ntmps83
 go_wp2_with fail
 generalize (w.alloc (.cells #[.int .i64 n, (.slice A1 n k1), (.slice A2 len k2), (.slice A3 n k3)] 121)).alloc (.cells #[.int .i64 0, .slice none 0 0, .slice none 0 0, .slice none 0 0] 121) = W1 at *
 refine (HIS.out W1 HG.out).mono ?_
 rintro e W2 ⟨rfl, g⟩
 have HG2 := Lib.hid (HG.out.trans (g.mono HG.out.size))
 have HB2 := Lib.hid (HBZ.out.below g)
 have HZ2 := Lib.hid (HZ.out.below g)
 have HSZ2 : Hid (w.heap.size + 2 ≤ W2.heap.size) := Lib.hid (Nat.le_trans HSZ.out g.size)
 clear c0 c1 c2 c3 l0 g HBZ HZ HG HSZ HIS
 obtain ⟨c0, c1, c2, c3, l0⟩ := HB2.out.cells
 go_upto_region 4 with fail
 have HU0 : Hid (U3 w (W2.alloc (.cells #[.int .i64 n, .slice none 0 0, .slice none 0 0, .slice none 0 0] 121)) W2.heap.size n (.slice A1 n k1) (.slice A2 len k2) (.slice A3 n k3) (.slice none 0 0) (.slice none 0 0) (.slice none 0 0) [] [] []) := Lib.hid ⟨blk_alloc HB2.out _, blk_alloc HZ2.out _, blk_new W2 _, by have := HSZ2.out; omega, HG2.out.alloc HG2.out.size _, Kd.R_nil _ _ _ _ _, Kd.R_nil _ _ _ _ _, Kd.R_nil _ _ _ _ _⟩
 have HGE : Hid (w.heap.size ≤ W2.heap.size) := Lib.hid (by have := HSZ2.out; omega)
 clear c0 c1 c2 c3 l0 HB2 HZ2 HG2 HSZ2
 generalize W2.alloc (.cells #[.int .i64 n, .slice none 0 0, .slice none 0 0, .slice none 0 0] 121) = W3 at *
 generalize W2.heap.size = g at *
 go_wp2_with fail
 go_loopw [7] (fun v7 wr => ∃ (i : Nat) (v1 v3 : Value) (xs3 : List Int), v7 = .int .i64 i ∧ i ≤ n ∧ Hid (xs3.length = i) ∧ Hid (U3 w wr g n (.slice A1 n k1) (.slice A2 len k2) (.slice A3 n k3) v1 (.slice none 0 0) v3 (inn'.take i) [] xs3)) (fun v7 _ => n - (intOf v7).toNat)
 case atStart => exact ⟨0, _, _, [], rfl, by omega, Lib.hid rfl, HU0⟩
 case round =>
  obtain ⟨i, v1, v3, xs3, rfl, hi, HX3, HU⟩ := hrel
  clear HU0
  obtain ⟨c0, c1, c2, c3, l0⟩ := HU.out.tb.cells
  by_cases hlt : i < n
  ·obtain ⟨a1, hA1, p1⟩ := Kd.at_int (Kd.C_below HC1.out HU.out.bel) (i : Int) (by omega) (by omega)
   obtain ⟨a3, hA3, p3⟩ := Kd.at_int (Kd.C_below HC3.out HU.out.bel) (i : Int) (by omega) (by omega)
   subst hA1 hA3
   have p1' : wr.cell? (a1.add i) = some (.int .i64 (rd inn i)) := p1
   have p3' : wr.cell? (a3.add i) = some (.int .i64 (rd lost i)) := p3
   have hi0 : (0 : Int) ≤ (i : Int) := Int.natCast_nonneg _
   have hi1 : (i : Int) < (n : Int) := by omega
   have HT := Lib.hid (take_rd (l := inn') (i := i) (by have := HIN.out; omega))
   have HR := Lib.hid (HIR.out i)
   have htl : (inn'.take i).length ≤ 1000 := by rw [List.length_take]; omega
   have hxl : xs3.length ≤ 1000 := by have := HX3.out; omega
   clear p1 p3
   generalize rd inn (i : Int) = q1 at *
   generalize rd lost (i : Int) = q3 at *
   go_upto_region 9 with fail
   clear p1' p3'
   go_upto_region 10 with (first | (go_at_call 81; refine (HWY.out wr HU.out.bel _ _).mono ?_; rintro e w1 ⟨y0, y1, y2, b1, rfl, g1⟩; have HG1 := Lib.hid g1; clear g1))
   have HU2 := Lib.hid ((HU.out.below HG1.out).below ((Below.refl _ _).alloc (Nat.le_refl _) (.cells #[.int .i64 y0, .int .i64 y1, .int .i64 y2] 69)))
   clear c0 c1 c2 c3 l0 HG1
   generalize w1.alloc (.cells #[.int .i64 y0, .int .i64 y1, .int .i64 y2] 69) = W5 at *
   generalize w1.heap.size = gw at *
   obtain ⟨c0, c1, c2, c3, l0⟩ := HU2.out.tb.cells
   go_cut [12, 13] from 46 to 52 (fun v12 v13 wx => ∃ gz b2, v12 = .pointer (some ⟨gz, 0, none⟩) ∧ v13 = .bool b2 ∧ Hid (U3 w wx g n (.slice (some a1) n k1) (.slice A2 len k2) (.slice (some a3) n k3) v1 (.slice none 0 0) v3 (inn'.take i) [] xs3))
   case first =>
    go_wp2_with (first | (go_at_call 81; refine (HWY.out W5 HU2.out.bel _ _).mono ?_; rintro e w2 ⟨z0, z1, z2, b2, rfl, g2⟩; have HG2 := Lib.hid g2; clear g2))
    all_goals go_meet
    all_goals exact ⟨_, _, rfl, rfl, Lib.hid ((HU2.out.below HG2.out).below ((Below.refl _ _).alloc (Nat.le_refl _) (.cells #[.int .i64 z0, .int .i64 z1, .int .i64 z2] 69)))⟩
   case rest =>
   obtain ⟨gz, b2, rfl, rfl, HU3⟩ := hcut
   clear c0 c1 c2 c3 l0
   generalize wc = W6 at *
   rename_i hK
   refine hK _ _ ?_
   refine wp_seq_k ?_
   intro K0 hK0
   go_cut [8] from 53 to 55 (fun v8 wx => ∃ q, v8 = .int .i64 q ∧ Hid (q = rd inn' (i : Int)) ∧ wx = W6)
   case first =>
    by_cases e : (i : Int) = v
    ·have e1 : ((i : Int) == (v : Int)) = true := by simp [e]
     have HQ : Hid (0 = rd inn' (i : Int)) := Lib.hid (by rw [HR.out, if_pos e])
     clear e
     go_wp2_with fail
     all_goals go_meet
     all_goals exact ⟨0, rfl, HQ, rfl⟩
    ·have e1 : ((i : Int) == (v : Int)) = false := by simpa using e
     have HQ : Hid (q1 = rd inn' (i : Int)) := Lib.hid (by rw [HR.out, if_neg e])
     clear e
     go_wp2_with fail
     all_goals go_meet
     all_goals exact ⟨q1, rfl, HQ, rfl⟩
   case rest =>
   obtain ⟨q, rfl, HQ, hwx⟩ := hcut
   subst hwx
   refine hK0 _ _ ?_
   refine wp_seq_k ?_
   intro K1 hK1
   go_cut [9] from 56 to 61 (fun v9 wx => ∃ q, v9 = .int .i64 q ∧ Hid (U3 w wx g n (.slice (some a1) n k1) (.slice A2 len k2) (.slice (some a3) n k3) v1 (.slice none 0 0) v3 (inn'.take i) [] xs3))
   case first =>
    cases b1 with
    | true =>
     go_wp2_with fail
     all_goals go_meet
     all_goals exact ⟨_, rfl, HU3⟩
    | false =>
     cases b2 with
     | true =>
      go_wp2_with fail
      all_goals go_meet
      all_goals exact ⟨_, rfl, HU3⟩
     | false =>
      go_wp2_with fail
      all_goals go_meet
      all_goals exact ⟨_, rfl, HU3⟩
   case rest =>
   obtain ⟨q', rfl, HU4⟩ := hcut
   clear HU HU2 HU3
   refine hK1 _ _ ?_
   obtain ⟨d0, d1, d2, d3, dl⟩ := HU4.out.gb.cells
   go_upto_region 16 with (at_builtin; refine Kd.R_append (Kd.int .i64) (w0 := w) w.heap.size rfl (.tmp 63) (.tmp 65) 28 3 (.int .i64 0) 8 rfl Tryz.underlying28 info3 rfl (by decide) (by omega) _ (inn'.take i) q [.int .i64 q] (fun k => some k ≠ v3.ownBlock) (fun _ => False) rfl rfl rfl (fun _ h => h.elim) (fun k hk e => by have := Kd.R_lt HU4.out.r3 k e.symm; omega) HU4.out.r1 HU4.out.bel HU4.out.bel.size (by omega) ?_; intro v1' w7 hR hB hg _; obtain ⟨A9, c9, hv9⟩ := Kd.R_slice hR; generalize (inn'.take i ++ [q]).length = m9 at hv9; subst hv9; have HU5 := Lib.hid (U3.app1 HU4.out hg hR hB); have hm := U3.mid1 HU4.out hg; clear d0 d1 d2 d3 dl; obtain ⟨d0, d1, d2, d3, dl⟩ := TB.cells hm; have df : ∀ j, w7.frozen? ⟨g, j, none⟩ = false := fun j => blk_frozen hm j; clear hR hB hg hm)
   have HU6 : Hid (U3 w (w7.setCell ⟨g, 1, none⟩ (.slice A9 m9 c9)) g n (.slice (some a1) n k1) (.slice A2 len k2) (.slice (some a3) n k3) (.slice A9 m9 c9) (.slice none 0 0) v3 (inn'.take (i + 1)) [] xs3) := Lib.hid (by rw [HT.out, ← HQ.out]; exact HU5.out)
   clear HU4 HU5 d0 d1 d2 d3 dl df
   generalize w7.setCell ⟨g, 1, none⟩ (.slice A9 m9 c9) = W7 at *
   obtain ⟨d0, d1, d2, d3, dl⟩ := HU6.out.gb.cells
   go_wp2_with (at_builtin; refine Kd.R_append (Kd.int .i64) (w0 := w) w.heap.size rfl (.tmp 69) (.tmp 71) 28 3 (.int .i64 0) 8 rfl Tryz.underlying28 info3 rfl (by decide) (by omega) _ xs3 q' [.int .i64 q'] (fun k => some k ≠ (Value.slice A9 m9 c9).ownBlock) (fun _ => False) rfl rfl rfl (fun _ h => h.elim) (fun k hk e => by have := Kd.R_lt HU6.out.r1 k e.symm; omega) HU6.out.r3 HU6.out.bel HU6.out.bel.size (by omega) ?_; intro v3' w8 hR hB hg _; obtain ⟨A8, c8, hv8⟩ := Kd.R_slice hR; generalize (xs3 ++ [q']).length = m8 at hv8; subst hv8; have HU7 := Lib.hid (U3.app3 HU6.out hg hR hB); have hm := U3.mid3 HU6.out hg; clear d0 d1 d2 d3 dl; obtain ⟨d0, d1, d2, d3, dl⟩ := TB.cells hm; have df : ∀ j, w8.frozen? ⟨g, j, none⟩ = false := fun j => blk_frozen hm j; clear hR hB hg hm)
   go_roundw
   case measure => simp [intOf]; omega
   case rel => exact ⟨i + 1, _, _, xs3 ++ [q'], by go_num, by omega, Lib.hid (by rw [List.length_append, HX3.out]; rfl), HU7⟩
  ·have HX1 : Hid (inn'.take i = inn') := Lib.hid (List.take_of_length_le (by have := HIN.out; omega))
   have HX4 : Hid (xs3.length = n) := Lib.hid (by have := HX3.out; omega)
   have hil : n ≤ i := by omega
   rw [HX1.out] at HU
   have HF : Hid (∃ f : S156 → Bool, f = fun y => y.f0 != (v : Int) && y.f1 != (v : Int)) := Lib.hid ⟨_, rfl⟩
   obtain ⟨f, hfd⟩ := HF.out
   have HFD : Hid (∀ y : S156, f y = (y.f0 != (v : Int) && y.f1 != (v : Int))) := Lib.hid (fun y => by rw [hfd])
   have HDW : Hid ((l.filter fun y => y.f0 != (v : Int) && y.f1 != (v : Int)) = l.filter f) := Lib.hid (by rw [hfd])
   clear hfd HF HX3 HIR
   have HUA : Hid (U3 w wr g n (.slice A1 n k1) (.slice A2 len k2) (.slice A3 n k3) v1 (.slice none 0 0) v3 inn' ((l.take 0).filter f) xs3) := Lib.hid (by simpa using HU.out)
   go_wp2_with fail
   go_loopw [14] (fun v14 wq => ∃ (i : Nat) (v2 : Value), v14 = .int .i64 i ∧ i ≤ len ∧ Hid (U3 w wq g n (.slice A1 n k1) (.slice A2 len k2) (.slice A3 n k3) v1 v2 v3 inn' ((l.take i).filter f) xs3)) (fun v14 _ => len - (intOf v14).toNat)
   case atStart => exact ⟨0, _, rfl, by omega, HUA⟩
   case round =>
    obtain ⟨j, v2, rfl, hj, HV⟩ := hrel
    clear HU HUA c0 c1 c2 c3 l0
    obtain ⟨c0, c1, c2, c3, l0⟩ := HV.out.tb.cells
    by_cases hlt : j < len
    ·obtain ⟨ad, hA2, r0, r1, r2, r3, r4⟩ := at_T156 (Kd.C_below HC2.out HV.out.bel) (j : Int) (by omega) (by omega)
     have HTK := Lib.hid (rd132_take (l := l) (i := j) (by have := HLEN.out.1; omega) f)
     have hfl : ((l.take j).filter f).length ≤ len := by
      have h1 := List.length_filter_le f (l.take j)
      have h2 : (l.take j).length ≤ len := by rw [List.length_take]; have := HLEN.out.1; omega
      omega
     simp only [Int.toNat_natCast] at r0 r1 r2 r3 r4
     have HFE := Lib.hid (HFD.out (rd_T156 l (j : Int)))
     generalize rd_T156 l (j : Int) = e at *
     obtain ⟨a, b, ⟨q1, q2, q3⟩⟩ := e
     simp only at r0 r1 r2 r3 r4 HFE
     have hi0 : (0 : Int) ≤ (j : Int) := Int.natCast_nonneg _
     have hi1 : (j : Int) < (len : Int) := by omega
     generalize (l.take j).filter f = ys at *
     subst hA2
     cases e1 : (a != (v : Int)) with
     | false =>
      have e1' : (a == (v : Int)) = true := by have : (!(a == (v : Int))) = false := e1; simpa using this
      have HN2 : Hid ((l.take (j + 1)).filter f = ys) := Lib.hid (by rw [HTK.out, HFE.out, e1]; simp)
      clear HTK HFE
      go_wp2_with fail
      go_roundw
      case measure => simp [intOf]; omega
      case rel => exact ⟨j + 1, v2, by go_num, by omega, Lib.hid (by rw [HN2.out]; exact HV.out)⟩
     | true =>
      have e1' : (a == (v : Int)) = false := by have : (!(a == (v : Int))) = true := e1; simpa using this
      cases e2 : (b != (v : Int)) with
      | false =>
       have e2' : (b == (v : Int)) = true := by have : (!(b == (v : Int))) = false := e2; simpa using this
       have HN2 : Hid ((l.take (j + 1)).filter f = ys) := Lib.hid (by rw [HTK.out, HFE.out, e1, e2]; simp)
       clear HTK HFE
       go_wp2_with fail
       go_roundw
       case measure => simp [intOf]; omega
       case rel => exact ⟨j + 1, v2, by go_num, by omega, Lib.hid (by rw [HN2.out]; exact HV.out)⟩
      | true =>
       have e2' : (b == (v : Int)) = false := by have : (!(b == (v : Int))) = true := e2; simpa using this
       have HN2 : Hid ((l.take (j + 1)).filter f = ys ++ [⟨a, b, ⟨q1, q2, q3⟩⟩]) := Lib.hid (by rw [HTK.out, HFE.out, e1, e2]; simp)
       clear HTK HFE
       obtain ⟨d0, d1, d2, d3, dl⟩ := HV.out.gb.cells
       have HVD := Lib.hid (HV.out.below (Below.refl _ _).drew)
       have hmax : (ys.length + 1) * 40 ≤ 140737488355328 := by omega
       go_upto_region 21 with fail
       refine start_ (n := 11) (S := fun w' => w'.cell? ⟨g, 2, none⟩ = some v2 ∧ w'.cell? ⟨w.heap.size, 2, none⟩ = some (.slice (some ad) len k2) ∧ w'.cell? (ad.add (j * 5)) = some (.int .i64 a) ∧ w'.cell? ⟨(ad.add (j * 5)).block, (ad.add (j * 5)).off + 1, none⟩ = some (.int .i64 b) ∧ w'.cell? ⟨(ad.add (j * 5)).block, (ad.add (j * 5)).off + 2, none⟩ = some (.int .i64 q1) ∧ w'.cell? ⟨(ad.add (j * 5)).block, (ad.add (j * 5)).off + 3, none⟩ = some (.int .i64 q2) ∧ w'.cell? ⟨(ad.add (j * 5)).block, (ad.add (j * 5)).off + 4, none⟩ = some (.int .i64 q3)) (ds := [8, 10]) (bA_ 11 0) (by kernel_rfl) rfl rfl ⟨d2, c2, r0, r1, r2, r3, r4⟩ (fun hHeld => ?_)
       refine p2_ 0 99 (bA_ 11 1) ?_
       refine p2_ 2 101 (bA_ 11 5) ?_
       refine p2_ 4 103 (bA_ 11 21) ?_
       refine t2_ 1 100 (bA_ 11 23) hHeld ?_ (hy := by rintro w' ⟨s0, s1, s2, s3, s4, s5, s6⟩; go_simp; with_reducible rfl)
       refine t2_ 3 102 (bA_ 11 31) hHeld ?_ (hy := by rintro w' ⟨s0, s1, s2, s3, s4, s5, s6⟩; go_simp; with_reducible rfl)
       refine p2_ 5 104 (bA_ 11 63) ?_
       refine t2_ 6 105 (bA_ 11 127) hHeld ?_ (hy := by rintro w' ⟨s0, s1, s2, s3, s4, s5, s6⟩; go_simp; with_reducible rfl)
       refine o2_ 7 106 (bA_ 11 255) (fun K hK => ?_)
       refine value_ (w1 := ?_) (v := ?_) (by rfl) rfl ?_ ?_
       rotate_left 2
       ·go_simp
        constructor
        ·rfl
        ·rfl
       refine hK.out _ _ ⟨(cell_allocT hHeld.1), (cell_allocT hHeld.2.1), (cell_allocT hHeld.2.2.1), (cell_allocT hHeld.2.2.2.1), (cell_allocT hHeld.2.2.2.2.1), (cell_allocT hHeld.2.2.2.2.2.1), (cell_allocT hHeld.2.2.2.2.2.2)⟩ (fun hHeld => ?_)
       clear hK K
       refine n2_ 106 ?_
       refine last_ (i := 8) (N := some 107) (bA_ 11 511) rfl rfl (by kernel_rfl) (by decide) (fun K hK => ?_)
       refine Kd.R_append_step k156 (w0 := w) w.heap.size (by rfl) (.tmp 100) (.tmp 106) 119 156 (.agg #[(.int .i64 0), (.int .i64 0), (.int .i64 0), (.int .i64 0), (.int .i64 0)]) 40 rfl Tryz.underlying119 info156 rfl (by decide) (by omega) v2 ys (⟨a, b, ⟨q1, q2, q3⟩⟩ : S156) [.int .i64 a, .int .i64 b, .int .i64 q1, .int .i64 q2, .int .i64 q3] (fun _ => True) (fun _ => False) rfl rfl (k156_mkM _ _ _ (⟨a, b, ⟨q1, q2, q3⟩⟩ : S156)) (fun _ h => h.elim) (fun _ _ => trivial) HVD.out.r2 HVD.out.bel HVD.out.bel.size hmax ?_
       intro v2' w8 hR hB hg _
       obtain ⟨A9, c9, hv9⟩ := Kd.R_slice hR
       generalize hm9 : (ys ++ [(⟨a, b, ⟨q1, q2, q3⟩⟩ : S156)]).length = m9 at hv9
       subst hv9
       have HV2 := Lib.hid (U3.app2 HVD.out hg hR hB)
       have hm := U3.mid2 HVD.out hg
       obtain ⟨x0, x1, x2, x3, xl⟩ := TB.cells hm
       have xf : ∀ j, w8.frozen? ⟨g, j, none⟩ = false := fun j => blk_frozen hm j
       clear hR hB hg hm
       refine hK.out _ _ ?_
       clear hK K
       refine n2_ 107 ?_
       refine p2_ 9 108 (bA_ 11 1023) ?_
       refine last_ (i := 10) (N := none) (bA_ 11 2047) rfl rfl (by kernel_rfl) (by decide) (fun K hK => ?_)
       refine skip_ (w1 := ?_) (by rfl) rfl ?_ ?_
       rotate_left
       ·go_simp
        rfl
       refine hK.out _ _ ?_
       clear hK K
       refine done_ (by kernel_rfl) ?_
       go_wp2_with fail
       go_roundw
       case measure => simp [intOf]; omega
       case rel => exact ⟨j + 1, _, by go_num, by omega, Lib.hid (by rw [HN2.out]; exact HV2.out)⟩
    ·have HYS : Hid ((l.take j).filter f = l.filter f) := Lib.hid (by rw [List.take_of_length_le (by have := HLEN.out.1; omega)])
     have hjl : len ≤ j := by omega
     rw [HYS.out] at HV
     have HTO : Hid (∀ (t' : TP), t' = ⟨n, inn', l.filter f, xs3⟩ → TakeOk ⟨n, inn, l, lost⟩ (v : Int) t') := Lib.hid (fun t' e => by
      subst e
      exact ⟨rfl, by rw [Int.toNat_natCast]; exact HII.out.symm, HDW.out.symm, by rw [HLEN.out.2.2]; exact HX4.out⟩)
     obtain ⟨B1, m1, hb1⟩ := Kd.R_slice HV.out.r1
     obtain ⟨B2, m2, hb2⟩ := Kd.R_slice HV.out.r2
     obtain ⟨B3, m3, hb3⟩ := Kd.R_slice HV.out.r3
     generalize inn'.length = n1 at hb1
     generalize (l.filter f).length = n2 at hb2
     generalize xs3.length = n3 at hb3
     subst hb1 hb2 hb3
     have HTD := Lib.hid (U3.done HV.out HIN.out HX4.out (by omega) (by
      have h1 := List.length_filter_le f l
      have := HLEN.out.1
      omega))
     have HZB := Lib.hid HV.out.zb
     obtain ⟨d0, d1, d2, d3, dl⟩ := HV.out.gb.cells
     obtain ⟨z0, z1, z2, z3, hz, hzf⟩ := HV.out.zb.cells
     go_wp2_with fail
     all_goals (try rw [Exit.noGoto_ret])
     all_goals (refine bodyPost_ret (results_ct rfl _ _ (w.heap.size + 1) 121 #[.int .i64 n, .slice B1 n1 m1, .slice B2 n2 m2, .slice B3 n3 m3] (0, 0) _ rfl (ZB.put HZB.out) Tryz.underlying121 rfl (by kernel_rfl)) rfl ?_)
     all_goals exact ⟨.slice B1 n1 m1, .slice B2 n2 m2, .slice B3 n3 m3, _, rfl, HTO.out _ rfl, HTD.out, put4_below HV.out.bel (by omega)⟩
end Go.Proofs.YtfkejflmhidnaaaGreat.PAll
