import Derived.Test.YtfkejflmhidnaaaGreatQZBkA
import Derived.Test.YtfkejflmhidnaaaGreatQTpA
import Derived.Test.YtfkejflmhidnaaaGreatQFrP
set_option linter.all false
namespace Go.Proofs.YtfkejflmhidnaaaGreat.PAll
open RowKit YtfkejflmhidnaaaGreatW.PrintWords YtfkejflmhidnaaaGreatW.PrintLast YtfkejflmhidnaaaGreatW.PrintMore
open Hp hiding Good
def rwStep (x : S37) (out : List Int) (b : S174) : List Int := if rd out b.f0 = -1 ∨ x.f1 + b.f1 < rd out b.f0 then out.set b.f0.toNat (x.f1 + b.f1) else out
def rwRow (P : Int → List S174) (out : List Int) (x : S37) : List Int := (P x.f0).foldl (rwStep x) out
def rowQ (nt : Nat) (P : Int → List S174) (fw : List S37) : List Int := fw.foldl (rwRow P) (List.replicate nt (-1))
def RwIn (nt : Nat) (out : List Int) : Prop := ∀ t : Nat, t < nt → -1 ≤ rd out (t : Int) ∧ rd out (t : Int) ≤ 2305843009213693952
theorem RwIn.set {nt : Nat} {out : List Int} (h : RwIn nt out) (hl : out.length = nt) (t : Nat) (ht : t < nt) (v : Int) (h0 : 0 ≤ v) (h1 : v ≤ 2305843009213693952) : RwIn nt (out.set t v) := fun u hu => by
 by_cases e : t = u
 ·subst e
  rw [rd_set_same v (by omega)]
  omega
 ·rw [rd_set_other v e]
  exact h u hu
theorem rwStep_at (x : S37) (out : List Int) (t : Nat) (d : Int) : rwStep x out ⟨(t : Int), d⟩ = if rd out (t : Int) = -1 ∨ x.f1 + d < rd out (t : Int) then out.set t (x.f1 + d) else out := by
 unfold rwStep
 simp only [Int.toNat_natCast]
set_option maxRecDepth 100000 in
set_option maxHeartbeats 8000000 in
theorem row_walk (w : World) (hb n : Nat) (h : HierP) (wm : Int) (H : HierRep w hb n h) (hok : HOk n wm h) (s : Int) (nt : Nat) (hnt : nt ≤ 1000) (base mb N : Nat) (P : Int → List S174) (hBK : BkRep w base mb N P)
  (hP : ∀ u, ∀ b ∈ P u, 0 ≤ b.f0 ∧ b.f0 < nt ∧ 0 ≤ b.f1 ∧ b.f1 ≤ 1152921504606846976) (hPl : ∀ u, (P u).length ≤ 900900) :
  Calls Tryz.prog 99 #[.pointer (some ⟨hb, 0, none⟩), .int .i64 s, .int .i64 nt, .map (some mb)] w fun r w' => ∃ vr, r = .returned vr ∧ Kd.R (Kd.int .i64) 3 w' w.heap.size (fun _ => True) vr (rowQ nt P (aboveP n h s false)) ∧ Below w.heap.size w w' := by
 have hn9 := H.small
 have HFW : Hid (∀ W, Below w.heap.size w W → Calls Tryz.prog 89 #[.pointer (some ⟨hb, 0, none⟩), .int .i64 s] W fun r w' => ∃ vr, r = .returned vr ∧ Kd.R k37 37 w' W.heap.size (fun _ => True) vr (aboveP n h s false) ∧ Below W.heap.size W w') := Lib.hid (fun W g => forward_walk W hb n h wm (H.below g) hok s)
 have HAM : Hid (∀ x ∈ aboveP n h s false, 0 ≤ x.f0 ∧ x.f0 < n ∧ 0 ≤ x.f1 ∧ x.f1 ≤ 1152921504606846976) := Lib.hid (fun x hx => aboveP_mem hok hn9 hx)
 have hal : (aboveP n h s false).length ≤ 900 := Nat.le_trans (aboveP_len n h s false) hn9
 have HAT : Hid (∀ u : Int, ∃ f v, BkAt w base mb N P f u v) := Lib.hid (fun u => hBK.at u)
 have HP := Lib.hid hP
 have HPL := Lib.hid hPl
 generalize aboveP n h s false = fw at *
 obtain ⟨nf, hnf⟩ : ∃ nf, fw.length = nf := ⟨_, rfl⟩
 have HNF := Lib.hid hnf
 rw [hnf] at hal
 clear H hok hP hPl hBK hnf
 obtain ⟨i0, hi0, hz0, hz1, hz2⟩ := info_parts info3'
 have hn0 : (0 : Int) ≤ (nt : Int) := Int.natCast_nonneg _
 go_enter Tryz.func99, Tryz.ntmps99
 go_wp2_with (first | (at_make; refine wpList_make_full _ (by rfl) _ _ _ (by rfl) w.heap.size 3 i0 (.int .i64 0) 1 Tryz.underlying28 hi0 hz0 hz1 .i64 .i64 _ _ nt (by rfl) (by rfl) rfl rfl (by rw [hz2]; omega) (by simp only [maxLen]; omega) (Nat.le_refl _) ?_; intro w4 hown hgrow; have HO4 := Lib.hid hown; have HG4 := Lib.hid hgrow; clear hown hgrow))
 have HD4 : Hid (OwnI w4 w.heap.size w.heap.size nt (List.replicate nt 0)) := Lib.hid (by
  unfold OwnI
  rw [ints_zero]
  simpa [Value.cells] using HO4.out)
 have HB4 : Hid (Below w.heap.size w w4) := Lib.hid ((Below.refl w.heap.size w).grown HG4.out (Nat.le_refl _) (fun k hk => by cases hk))
 clear HO4 HG4
 generalize hgb : w.heap.size = gb at *
 have HGB := Lib.hid hgb
 clear hgb
 go_loopw [20] (fun v20 wr => ∃ (i : Nat) (x : List Int), v20 = .int .i64 i ∧ i ≤ nt ∧ Hid (OwnI wr gb gb nt x) ∧ Hid (Below gb w wr) ∧ Hid (∀ j : Nat, j < i → rd x j = -1)) (fun v20 _ => nt - (intOf v20).toNat)
 case atStart => exact ⟨0, _, rfl, by omega, HD4, HB4, Lib.hid (fun j hj => by omega)⟩
 case round =>
  obtain ⟨i, x, rfl, hi, HOx, HB, HX⟩ := hrel
  clear HD4 HB4
  by_cases hlt : i < nt
  ·obtain ⟨d0, f0, l4⟩ := HOx.out.facts i hlt
   have hi0' : (0 : Int) ≤ (i : Int) := Int.natCast_nonneg _
   have hi1 : (i : Int) < (nt : Int) := by omega
   generalize rd x (i : Int) = y at d0
   go_wp2_with fail
   go_roundw
   case measure => simp [intOf]; omega
   case rel =>
    refine ⟨i + 1, x.set i (-1), by go_num, by omega, Lib.hid (HOx.out.set i (-1)), Lib.hid (HB.out.setCell (p := ⟨gb, i, none⟩) (Nat.le_refl _) _), Lib.hid (fun j hj => ?_)⟩
    have hlen := HOx.out.len
    by_cases e : i = j
    ·subst e; exact rd_set_same (-1) (by omega)
    ·rw [rd_set_other (-1) e]; exact HX.out j (by omega)
  ·have hrep : x = List.replicate nt (-1) := eq_rep HOx.out.len (fun j hj => HX.out j (by omega))
   have HREP := Lib.hid hrep
   have hin : nt ≤ i := by omega
   clear hrep
   have hgl : gb < wr.heap.size := by
    have := (World.ownsRow.lt HOx.out gb rfl).2
    exact this
   go_wp2_with fail
   have g0 : Below w.heap.size w wr := by rw [HGB.out]; exact HB.out
   refine (HFW.out wr HB.out).mono ?_
   rintro e W5 ⟨vr, rfl, hR, g5⟩
   obtain ⟨Fa, fc, rfl, hfc, _⟩ := Kd.R_reads hR
   have HRL : Hid (Kd.R k37 37 W5 gb (fun k => k ≠ gb) (.slice Fa fw.length fc) fw) := Lib.hid (Kd.R_lower (Kd.R_mono (Kd.R_bound hR) (fun k hk => by have := hk.2.1; omega)) (Nat.le_of_lt hgl))
   have HO5 : Hid (OwnI W5 gb gb nt ((fw.take 0).foldl (rwRow P) (List.replicate nt (-1)))) := Lib.hid (by
    have := own_only HOx.out (Only.of_below g5 (fun _ => False)) (fun _ _ f => f)
    rw [HREP.out] at this
    exact this)
   have HB5 := Lib.hid (HB.out.trans (g5.mono (Nat.le_of_lt hgl)))
   have HI5 : Hid (RwIn nt ((fw.take 0).foldl (rwRow P) (List.replicate nt (-1)))) := Lib.hid (fun t ht => by
    have : rd (List.replicate nt (-1 : Int)) (t : Int) = -1 := by simp [rd, List.getD, ht]
    show -1 ≤ rd (List.replicate nt (-1)) (t : Int) ∧ rd (List.replicate nt (-1)) (t : Int) ≤ _
    rw [this]
    omega)
   rw [HNF.out] at HRL ⊢
   clear hR g5 hfc HOx HB HX HREP g0 hgl HFW
   go_wp2_with fail
   go_loopw [31] (fun v31 wr => ∃ (i : Nat) (out : List Int), v31 = .int .i64 i ∧ i ≤ nf ∧ Hid (OwnI wr gb gb nt out) ∧ Hid (Below gb w wr) ∧ Hid (out = (fw.take i).foldl (rwRow P) (List.replicate nt (-1))) ∧ Hid (Kd.R k37 37 wr gb (fun k => k ≠ gb) (.slice Fa nf fc) fw) ∧ Hid (RwIn nt out)) (fun v31 _ => nf - (intOf v31).toNat)
   case atStart => exact ⟨0, _, rfl, by omega, HO5, HB5, Lib.hid rfl, HRL, HI5⟩
   case round =>
    obtain ⟨i, out, rfl, hi, HO, HB, HE, HR, HI⟩ := hrel
    clear HO5 HB5 HRL HI5
    by_cases hlt : i < nf
    ·have hi0' : (0 : Int) ≤ (i : Int) := Int.natCast_nonneg _
     have hi1 : (i : Int) < (nf : Int) := by omega
     have hil : i < fw.length := by rw [HNF.out]; exact hlt
     have hxe : rd_T37 fw (i : Int) = fw[i] := by simp [rd_T37, List.getD, hil]
     have hxm : rd_T37 fw (i : Int) ∈ fw := by rw [hxe]; exact List.getElem_mem _
     have HNE : Hid ((fw.take (i + 1)).foldl (rwRow P) (List.replicate nt (-1)) = rwRow P out (rd_T37 fw (i : Int))) := Lib.hid (by rw [hxe, take_foldZ _ _ _ _ hil, ← HE.out])
     obtain ⟨hx0, hx1, hx2, hx3⟩ := HAM.out _ hxm
     obtain ⟨ad2, hAd, r0, r1⟩ := at_T37 (Kd.R_reads' HR.out).2.2 (i : Int) (by omega) (by rw [HNF.out]; omega)
     simp only [Int.toNat_natCast] at r0 r1
     subst hAd
     have hpl := HPL.out (rd_T37 fw (i : Int)).f0
     have HPB := Lib.hid (HP.out (rd_T37 fw (i : Int)).f0)
     obtain ⟨f, v0, hat⟩ := HAT.out (rd_T37 fw (i : Int)).f0
     have HAX := Lib.hid hat
     clear hat hxe hxm hil
     have hxw := wf64 hx0 (by omega)
     generalize rd_T37 fw (i : Int) = x at *
     obtain ⟨xv, xd⟩ := x
     simp only at r0 r1 hx0 hx1 hx2 hx3 hpl HPB HAX hxw
     have HNE2 : Hid ((fw.take (i + 1)).foldl (rwRow P) (List.replicate nt (-1)) = (P xv).foldl (rwStep ⟨xv, xd⟩) out) := Lib.hid HNE.out
     clear HNE
     obtain ⟨Ba, bc, hv0, hbc, _⟩ := Kd.R_reads HAX.out.own
     have HBR : Hid (∀ W, Below gb w W → Kd.C k174 W Ba (P xv).length (P xv)) := Lib.hid (fun W g => by
      have := (HAX.out.below (by rw [HGB.out]; exact g)).own
      rw [hv0] at this
      exact (Kd.R_reads' this).2.2)
     have hlk := HAX.out.look (w' := wr.alloc (.cells #[.int .i64 xv, .int .i64 xd] 37)) (by rw [HGB.out]; exact HB.out.alloc (Nat.le_of_lt (World.ownsRow.lt HO.out gb rfl).2) _) hxw
     rw [hv0] at hlk
     clear HAX hv0 hbc
     generalize P xv = bl at *
     obtain ⟨lb, hlb⟩ : ∃ lb, bl.length = lb := ⟨_, rfl⟩
     have HLB := Lib.hid hlb
     rw [hlb] at hlk HBR hpl
     clear hlb
     have HXB := Lib.hid (blk_new wr (.cells #[.int .i64 xv, .int .i64 xd] 37))
     have HGX : Hid (Below wr.heap.size wr (wr.alloc (.cells #[.int .i64 xv, .int .i64 xd] 37))) := Lib.hid ((Below.refl _ _).alloc (Nat.le_refl _) _)
     have hgl : gb < wr.heap.size := (World.ownsRow.lt HO.out gb rfl).2
     have HO6 : Hid (OwnI (wr.alloc (.cells #[.int .i64 xv, .int .i64 xd] 37)) gb gb nt out) := Lib.hid (own_only HO.out (Only.of_below HGX.out (fun _ => False)) (fun _ _ f => f))
     have HB6 := Lib.hid (HB.out.trans (HGX.out.mono (Nat.le_of_lt hgl)))
     have HR6 := Lib.hid (Kd.R_below HR.out HGX.out)
     go_wp2_with fail
     have HGN : Hid (gb ≠ wr.heap.size) := Lib.hid (by omega)
     generalize wr.alloc (.cells #[.int .i64 xv, .int .i64 xd] 37) = WX at *
     generalize wr.heap.size = gx at *
     clear HO HB HR HGX r0 r1 hgl hlk
     go_loopw [40] (fun v40 wr => ∃ (j : Nat) (o2 : List Int), v40 = .int .i64 j ∧ j ≤ lb ∧ Hid (OwnI wr gb gb nt o2) ∧ Hid (Below gb w wr) ∧ Hid (o2 = (bl.take j).foldl (rwStep ⟨xv, xd⟩) out) ∧ Hid (Kd.R k37 37 wr gb (fun k => k ≠ gb) (.slice (some ad2) nf fc) fw) ∧ Hid (RwIn nt o2) ∧ Hid (wr.heap[gx]? = some (.cells #[.int .i64 xv, .int .i64 xd] 37 (0, 0)))) (fun v40 _ => lb - (intOf v40).toNat)
     case atStart => exact ⟨0, out, rfl, by omega, HO6, HB6, Lib.hid rfl, HR6, HI, HXB⟩
     case round =>
      obtain ⟨j, o2, rfl, hj, HO, HB, HE2, HR, HI2, HX⟩ := hrel
      clear HO6 HB6 HR6 HXB
      by_cases hjt : j < lb
      ·have hj0 : (0 : Int) ≤ (j : Int) := Int.natCast_nonneg _
       have hj1 : (j : Int) < (lb : Int) := by omega
       have hjl : j < bl.length := by rw [HLB.out]; exact hjt
       have hbe : rd_T174 bl (j : Int) = bl[j] := by simp [rd_T174, List.getD, hjl]
       have hbm : rd_T174 bl (j : Int) ∈ bl := by rw [hbe]; exact List.getElem_mem _
       have HNS : Hid ((bl.take (j + 1)).foldl (rwStep ⟨xv, xd⟩) out = rwStep ⟨xv, xd⟩ o2 (rd_T174 bl (j : Int))) := Lib.hid (by rw [hbe, take_foldZ _ _ _ _ hjl, ← HE2.out])
       obtain ⟨hb0, hb1, hb2, hb3⟩ := HPB.out _ hbm
       obtain ⟨ad3, hAd, r0, r1⟩ := at_T174 (HBR.out wr HB.out) (j : Int) (by omega) (by omega)
       simp only [Int.toNat_natCast] at r0 r1
       subst hAd
       clear hbe hbm hjl
       generalize rd_T174 bl (j : Int) = b at *
       obtain ⟨bt, bd⟩ := b
       simp only at r0 r1 hb0 hb1 hb2 hb3
       obtain ⟨tn, rfl⟩ := Int.eq_ofNat_of_zero_le hb0
       have htn : tn < nt := by omega
       have HNS2 : Hid ((bl.take (j + 1)).foldl (rwStep ⟨xv, xd⟩) out = if rd o2 (tn : Int) = -1 ∨ xd + bd < rd o2 (tn : Int) then o2.set tn (xd + bd) else o2) := Lib.hid (by rw [HNS.out, rwStep_at])
       have hy := HI2.out tn htn
       have HIS : Hid (RwIn nt (o2.set tn (xd + bd))) := Lib.hid (HI2.out.set HO.out.len tn htn _ (by omega) (by omega))
       have hgl : gb < wr.heap.size := (World.ownsRow.lt HO.out gb rfl).2
       have HGX : Hid (Below wr.heap.size wr (wr.alloc (.cells #[.int .i64 tn, .int .i64 bd] 174))) := Lib.hid ((Below.refl _ _).alloc (Nat.le_refl _) _)
       have HO6 : Hid (OwnI (wr.alloc (.cells #[.int .i64 tn, .int .i64 bd] 174)) gb gb nt o2) := Lib.hid (own_only HO.out (Only.of_below HGX.out (fun _ => False)) (fun _ _ f => f))
       have HB6 := Lib.hid (HB.out.trans (HGX.out.mono (Nat.le_of_lt hgl)))
       have HR6 := Lib.hid (Kd.R_below HR.out HGX.out)
       have HX6 : Hid ((wr.alloc (.cells #[.int .i64 tn, .int .i64 bd] 174)).heap[gx]? = some (.cells #[.int .i64 xv, .int .i64 xd] 37 (0, 0))) := Lib.hid ((HGX.out.block gx (blk_lt HX.out)).trans HX.out)
       have HY6 := Lib.hid (blk_new wr (.cells #[.int .i64 tn, .int .i64 bd] 174))
       clear HNS HIS
       go_upto_region 13 with fail
       generalize wr.alloc (.cells #[.int .i64 tn, .int .i64 bd] 174) = WB at *
       generalize wr.heap.size = gy at *
       clear HO HB HR HX HGX r0 r1 hgl
       have x1 : WB.cell? ⟨gx, 1, none⟩ = some (.int .i64 xd) := (blk_cell HX6.out 1).trans rfl
       have xl := blk_lt HX6.out
       have y0 : WB.cell? ⟨gy, 0, none⟩ = some (.int .i64 tn) := (blk_cell HY6.out 0).trans rfl
       have y1 : WB.cell? ⟨gy, 1, none⟩ = some (.int .i64 bd) := (blk_cell HY6.out 1).trans rfl
       have yl := blk_lt HY6.out
       obtain ⟨d0, f0, l4⟩ := HO6.out.facts tn htn
       have ht0 : (0 : Int) ≤ (tn : Int) := Int.natCast_nonneg _
       have ht1 : (tn : Int) < (nt : Int) := by omega
       have hw1 : IntKind.i64.wrap (xd + bd) = xd + bd := i64w rfl (by omega) (by omega)
       have HIS : Hid (RwIn nt (o2.set tn (xd + bd))) := Lib.hid (HI2.out.set HO6.out.len tn htn _ (by omega) (by omega))
       have HXS : Hid ((WB.setCell ⟨gb, tn, none⟩ (.int .i64 (xd + bd))).heap[gx]? = some (.cells #[.int .i64 xv, .int .i64 xd] 37 (0, 0))) := Lib.hid ((Below.heap_setCell WB ⟨gb, tn, none⟩ (.int .i64 (xd + bd)) gx (fun e => HGN.out e.symm)).trans HX6.out)
       generalize rd o2 (tn : Int) = y at *
       by_cases hy1 : y = -1
       ·have t0 : (y == -1) = true := by simp [hy1]
        have HNS3 : Hid ((bl.take (j + 1)).foldl (rwStep ⟨xv, xd⟩) out = o2.set tn (xd + bd)) := Lib.hid (by rw [HNS2.out, if_pos (.inl hy1)])
        clear hy1
        go_wp2_with fail
        go_roundw
        case measure => simp [intOf]; omega
        case rel => exact ⟨j + 1, o2.set tn (xd + bd), by go_num, by omega, Lib.hid (HO6.out.set tn _), Lib.hid (HB6.out.setCell (p := ⟨gb, tn, none⟩) (Nat.le_refl _) _), Lib.hid HNS3.out.symm, Lib.hid (Kd.R_far (p := ⟨gb, tn, none⟩) HR6.out (fun k hk => hk) _), HIS, HXS⟩
       ·have t0 : (y == -1) = false := by simp [hy1]
        by_cases hlt2 : xd + bd < y
        ·have t1 : decide (xd + bd < y) = true := by simpa using hlt2
         have HNS3 : Hid ((bl.take (j + 1)).foldl (rwStep ⟨xv, xd⟩) out = o2.set tn (xd + bd)) := Lib.hid (by rw [HNS2.out, if_pos (.inr hlt2)])
         clear hy1 hlt2
         go_wp2_with fail
         go_roundw
         case measure => simp [intOf]; omega
         case rel => exact ⟨j + 1, o2.set tn (xd + bd), by go_num, by omega, Lib.hid (HO6.out.set tn _), Lib.hid (HB6.out.setCell (p := ⟨gb, tn, none⟩) (Nat.le_refl _) _), Lib.hid HNS3.out.symm, Lib.hid (Kd.R_far (p := ⟨gb, tn, none⟩) HR6.out (fun k hk => hk) _), HIS, HXS⟩
        ·have t1 : decide (xd + bd < y) = false := by simpa using hlt2
         have HNS3 : Hid ((bl.take (j + 1)).foldl (rwStep ⟨xv, xd⟩) out = o2) := Lib.hid (by rw [HNS2.out, if_neg (fun f => f.elim hy1 hlt2)])
         clear hy1 hlt2
         go_wp2_with fail
         go_roundw
         case measure => simp [intOf]; omega
         case rel => exact ⟨j + 1, o2, by go_num, by omega, HO6, HB6, Lib.hid HNS3.out.symm, HR6, HI2, HX6⟩
      ·have HJE : Hid (o2 = (fw.take (i + 1)).foldl (rwRow P) (List.replicate nt (-1))) := Lib.hid (by rw [HNE2.out, HE2.out, List.take_of_length_le (by rw [HLB.out]; omega)])
       have hjm : lb ≤ j := by omega
       go_wp2_with fail
       go_roundw
       case measure => simp [intOf]; omega
       case rel => exact ⟨i + 1, o2, by go_num, by omega, HO, HB, HJE, HR, HI2⟩
    ·have HIE : Hid (out = rowQ nt P fw) := Lib.hid (by rw [HE.out, List.take_of_length_le (by rw [HNF.out]; omega)]; rfl)
     have hil : nf ≤ i := by omega
     go_wp2_with fail
     all_goals (try rw [Exit.noGoto_ret])
     all_goals go_ret
     all_goals (
      have h1 := HO.out
      rw [HIE.out] at h1
      have h2 := h1.len
      rw [HGB.out]
      exact ⟨_, rfl, Kd.R_of_own (enc := fun x : Int => .int .i64 x) (by rw [h2]; exact h1) (fun k hk => trivial), HB.out⟩)
def Lst (S : Int → Prop) (v : Int) : Prop := (v = -1 ∧ ∀ d, ¬ S d) ∨ (S v ∧ ∀ d, S d → v ≤ d)
theorem Lst.uniq {S T : Int → Prop} {u v : Int} (hu : Lst S u) (hv : Lst T v) (h : ∀ d, S d ↔ T d) : u = v := by
 rcases hu with ⟨rfl, hu⟩ | ⟨hu, lu⟩ <;> rcases hv with ⟨rfl, hv⟩ | ⟨hv, lv⟩
 ·rfl
 ·exact absurd ((h v).2 hv) (hu v)
 ·exact absurd ((h u).1 hu) (hv u)
 ·have := lu v ((h v).2 hv)
  have := lv u ((h u).1 hu)
  omega
theorem Lst.add {S : Int → Prop} {v d : Int} (h : Lst S v) (hS : ∀ e, S e → 0 ≤ e) (hd : 0 ≤ d) : Lst (fun e => S e ∨ e = d) (if v = -1 ∨ d < v then d else v) := by
 rcases h with ⟨rfl, h⟩ | ⟨h, hl⟩
 ·rw [if_pos (.inl rfl)]
  exact .inr ⟨.inr rfl, fun e he => he.elim (fun f => absurd f (h e)) (fun f => by omega)⟩
 ·have h0 := hS v h
  by_cases hc : d < v
  ·rw [if_pos (.inr hc)]
   exact .inr ⟨.inr rfl, fun e he => he.elim (fun f => by have := hl e f; omega) (fun f => by omega)⟩
  ·rw [if_neg (fun f => f.elim (fun f => by omega) hc)]
   exact .inr ⟨.inl h, fun e he => he.elim (hl e) (fun f => by omega)⟩
theorem Lst.same {S T : Int → Prop} {v : Int} (h : Lst S v) (e : ∀ d, S d ↔ T d) : Lst T v := by
 rcases h with ⟨rfl, h⟩ | ⟨h, hl⟩
 ·exact .inl ⟨rfl, fun d hd => h d ((e d).2 hd)⟩
 ·exact .inr ⟨(e v).1 h, fun d hd => hl d ((e d).2 hd)⟩
theorem rwStep_lst {nt : Nat} {S : Int → Int → Prop} (x : S37) (b : S174) (out : List Int) (hS : ∀ t d, S t d → 0 ≤ d) (hd : 0 ≤ x.f1 + b.f1) (hb : 0 ≤ b.f0) (hb1 : b.f0 < nt) (hl : out.length = nt) (h : ∀ t : Nat, t < nt → Lst (S t) (rd out (t : Int))) :
  (rwStep x out b).length = nt ∧ ∀ t : Nat, t < nt → Lst (fun d => S t d ∨ (b.f0 = t ∧ d = x.f1 + b.f1)) (rd (rwStep x out b) (t : Int)) := by
 obtain ⟨bt, bd⟩ := b
 simp only at hb hb1 hd ⊢
 obtain ⟨bt, rfl⟩ := Int.eq_ofNat_of_zero_le hb
 have hlt : bt < nt := by omega
 have hs := (h bt hlt).add (hS _) hd
 rw [rwStep_at]
 by_cases hc : rd out (bt : Int) = -1 ∨ x.f1 + bd < rd out (bt : Int)
 ·rw [if_pos hc] at hs ⊢
  refine ⟨by rw [List.length_set]; exact hl, fun t ht => ?_⟩
  by_cases e : bt = t
  ·subst e
   rw [rd_set_same _ (by omega)]
   exact hs.same (fun d => by simp)
  ·rw [rd_set_other _ e]
   exact (h t ht).same (fun d => ⟨.inl, fun f => f.elim id (fun f => by omega)⟩)
 ·rw [if_neg hc] at hs ⊢
  refine ⟨hl, fun t ht => ?_⟩
  by_cases e : bt = t
  ·subst e
   exact hs.same (fun d => by simp)
  ·exact (h t ht).same (fun d => ⟨.inl, fun f => f.elim id (fun f => by omega)⟩)
theorem rwFold_lst {nt : Nat} (x : S37) (hx : 0 ≤ x.f1) : ∀ (bl : List S174) (S : Int → Int → Prop) (out : List Int), (∀ t d, S t d → 0 ≤ d) → (∀ b ∈ bl, 0 ≤ b.f0 ∧ b.f0 < nt ∧ 0 ≤ b.f1) → out.length = nt → (∀ t : Nat, t < nt → Lst (S t) (rd out (t : Int))) →
  (bl.foldl (rwStep x) out).length = nt ∧ ∀ t : Nat, t < nt → Lst (fun d => S t d ∨ ∃ b ∈ bl, b.f0 = t ∧ d = x.f1 + b.f1) (rd (bl.foldl (rwStep x) out) (t : Int))
 | [], S, out, _, _, hl, h => ⟨hl, fun t ht => (h t ht).same (fun d => by simp)⟩
 | b :: bl, S, out, hS, hb, hl, h => by
  obtain ⟨b0, b1, b2⟩ := hb b (by simp)
  obtain ⟨l1, h1⟩ := rwStep_lst x b out hS (by omega) b0 b1 hl h
  obtain ⟨l2, h2⟩ := rwFold_lst x hx bl (fun t d => S t d ∨ (b.f0 = t ∧ d = x.f1 + b.f1)) _ (fun t d f => f.elim (hS t d) (fun f => by omega)) (fun c hc => hb c (by simp [hc])) l1 h1
  refine ⟨l2, fun t ht => (h2 t ht).same (fun d => ?_)⟩
  constructor
  ·rintro ((f | f) | ⟨c, hc, f⟩)
   ·exact .inl f
   ·exact .inr ⟨b, by simp, f⟩
   ·exact .inr ⟨c, by simp [hc], f⟩
  ·rintro (f | ⟨c, hc, f⟩)
   ·exact .inl (.inl f)
   ·rcases List.mem_cons.1 hc with rfl | hc
    ·exact .inl (.inr f)
    ·exact .inr ⟨c, hc, f⟩
theorem rowFold_lst {nt : Nat} {P : Int → List S174} (hP : ∀ u, ∀ b ∈ P u, 0 ≤ b.f0 ∧ b.f0 < nt ∧ 0 ≤ b.f1) : ∀ (fw : List S37) (S : Int → Int → Prop) (out : List Int), (∀ t d, S t d → 0 ≤ d) → (∀ x ∈ fw, 0 ≤ x.f1) → out.length = nt → (∀ t : Nat, t < nt → Lst (S t) (rd out (t : Int))) →
  (fw.foldl (rwRow P) out).length = nt ∧ ∀ t : Nat, t < nt → Lst (fun d => S t d ∨ ∃ x ∈ fw, ∃ b ∈ P x.f0, b.f0 = t ∧ d = x.f1 + b.f1) (rd (fw.foldl (rwRow P) out) (t : Int))
 | [], S, out, _, _, hl, h => ⟨hl, fun t ht => (h t ht).same (fun d => by simp)⟩
 | x :: fw, S, out, hS, hx, hl, h => by
  have hx0 := hx x (by simp)
  obtain ⟨l1, h1⟩ := rwFold_lst x hx0 (P x.f0) S out hS (hP x.f0) hl h
  obtain ⟨l2, h2⟩ := rowFold_lst hP fw (fun t d => S t d ∨ ∃ b ∈ P x.f0, b.f0 = t ∧ d = x.f1 + b.f1) _ (fun t d f => f.elim (hS t d) (fun ⟨b, hb, _, e⟩ => by have := (hP _ b hb).2.2; omega)) (fun c hc => hx c (by simp [hc])) l1 h1
  refine ⟨l2, fun t ht => (h2 t ht).same (fun d => ?_)⟩
  constructor
  ·rintro ((f | f) | ⟨c, hc, f⟩)
   ·exact .inl f
   ·exact .inr ⟨x, by simp, f⟩
   ·exact .inr ⟨c, by simp [hc], f⟩
  ·rintro (f | ⟨c, hc, f⟩)
   ·exact .inl (.inl f)
   ·rcases List.mem_cons.1 hc with rfl | hc
    ·exact .inl (.inr f)
    ·exact .inr ⟨c, hc, f⟩
theorem far_lst {n : Nat} {wm : Int} {h : HierP} (hok : HOk n wm h) (hn : n ≤ 900) (s u : Int) : Lst (fun d => ∃ x ∈ aboveP n h s false, ∃ y ∈ aboveP n h u true, x.f0 = y.f0 ∧ d = x.f1 + y.f1) (farP n h s u) := by
 have hp : ∀ (v : Int) (back : Bool), (aboveP n h v back).Pairwise (fun p q => p.f0 < q.f0) := fun v back => by
  unfold aboveP
  split
  ·exact rowsP_pair _ _ _
  ·exact List.Pairwise.nil
 have hall : ∀ p ∈ commonP (aboveP n h s false) (aboveP n h u true), 0 ≤ p.1.f0 ∧ 0 ≤ p.1.f1 ∧ 0 ≤ p.2.f1 ∧ p.1.f1 + p.2.f1 ≤ 2305843009213693952 := fun p hp => by
  obtain ⟨h1, h2, h3⟩ := commonP_mem _ _ p hp
  have a := aboveP_mem hok hn h1
  have b := aboveP_mem hok hn h2
  omega
 have hhas : ∀ x ∈ aboveP n h s false, ∀ y ∈ aboveP n h u true, x.f0 = y.f0 → (x, y) ∈ commonP (aboveP n h s false) (aboveP n h u true) := fun x hx y hy e => commonP_has _ _ x y (hp s false) (hp u true) hx hy e
 have hmem : ∀ p ∈ commonP (aboveP n h s false) (aboveP n h u true), p.1 ∈ aboveP n h s false ∧ p.2 ∈ aboveP n h u true ∧ p.1.f0 = p.2.f0 := fun p hp => commonP_mem _ _ p hp
 have hfar : farP n h s u = ((commonP (aboveP n h s false) (aboveP n h u true)).foldl meetS (-1, -1)).1 := rfl
 rw [hfar]
 cases hc : commonP (aboveP n h s false) (aboveP n h u true) with
 | nil =>
  rw [hc] at hhas
  exact .inl ⟨rfl, fun d ⟨x, hx, y, hy, e, _⟩ => by have := hhas x hx y hy e; simp at this⟩
 | cons p l =>
  rw [hc] at hall hhas hmem
  obtain ⟨k0, k1, k2, k3⟩ := hall p (by simp)
  have hw : IntKind.i64.wrap (p.1.f1 + p.2.f1) = p.1.f1 + p.2.f1 := i64w rfl (by omega) (by omega)
  have e : meetS (-1, -1) p = (p.1.f1 + p.2.f1, p.1.f0) := by unfold meetS; rw [hw]; simp
  rw [List.foldl_cons, e]
  obtain ⟨l1, l2, l3⟩ := foldl_least l (fun q hq => hall q (by simp [hq])) (by omega) (p.1.f1 + p.2.f1, p.1.f0) (.inr k0)
  have l2' := l2 (fun f => by have := congrArg Prod.snd f; simp only at this; omega)
  right
  refine ⟨?_, fun d ⟨x, hx, y, hy, e, hd⟩ => ?_⟩
  ·rcases l3 with l3 | ⟨q, hq, l3⟩
   ·obtain ⟨m1, m2, m3⟩ := hmem p (by simp)
    exact ⟨p.1, m1, p.2, m2, m3, by rw [l3]⟩
   ·obtain ⟨m1, m2, m3⟩ := hmem q (by simp [hq])
    exact ⟨q.1, m1, q.2, m2, m3, l3⟩
  ·rw [hd]
   rcases List.mem_cons.1 (hhas x hx y hy e) with f | f
   ·have f1 : x = p.1 := congrArg Prod.fst f
    have f2 : y = p.2 := congrArg Prod.snd f
    rw [f1, f2]
    exact l2'
   ·exact l1 (x, y) f
theorem bkP_in {n : Nat} {wm : Int} {h : HierP} (hok : HOk n wm h) (hn : n ≤ 900) (ts : List Int) (u : Int) (b : S174) (hb : b ∈ bkP n h ts ts.length u) : 0 ≤ b.f0 ∧ b.f0 < ts.length ∧ 0 ≤ b.f1 ∧ b.f1 ≤ 1152921504606846976 := by
 obtain ⟨i, hi, x, hx, _, rfl⟩ := (bkP_mem _).1 hb
 have := aboveP_mem hok hn hx
 simp only
 omega
theorem rowQ_is {n : Nat} {wm : Int} {h : HierP} (hok : HOk n wm h) (hn : n ≤ 900) (ts : List Int) (s : Int) : rowQ ts.length (bkP n h ts ts.length) (aboveP n h s false) = ts.map (fun t => farP n h s t) := by
 obtain ⟨l1, h1⟩ := rowFold_lst (nt := ts.length) (P := bkP n h ts ts.length) (fun u b hb => by have := bkP_in hok hn ts u b hb; omega) (aboveP n h s false) (fun _ _ => False) (List.replicate ts.length (-1)) (fun _ _ f => f.elim) (fun x hx => by have := aboveP_mem hok hn hx; omega) (by simp)
  (fun t ht => .inl ⟨by simp [rd, List.getD, ht], fun _ f => f⟩)
 refine List.ext_getElem (by rw [List.length_map]; exact l1) (fun t h2 h3 => ?_)
 rw [List.length_map] at h3
 have e := (h1 t h3).uniq (far_lst hok hn s (rd ts (t : Int))) (fun d => ?_)
 ·rw [show (rowQ ts.length (bkP n h ts ts.length) (aboveP n h s false))[t] = rd (rowQ ts.length (bkP n h ts ts.length) (aboveP n h s false)) (t : Int) from (rd_get h2).symm, List.getElem_map, ← rd_get h3]
  exact e
 ·constructor
  ·rintro (f | ⟨x, hx, b, hb, e1, e2⟩)
   ·exact f.elim
   ·obtain ⟨i, hi, y, hy, e3, rfl⟩ := (bkP_mem _).1 hb
    simp only at e1 e2
    have : i = t := by omega
    subst this
    exact ⟨x, hx, y, hy, e3, e2⟩
  ·rintro ⟨x, hx, y, hy, e1, e2⟩
   exact .inr ⟨x, hx, ⟨(t : Int), y.f1⟩, (bkP_mem _).2 ⟨t, h3, y, hy, e1, rfl⟩, rfl, e2⟩
def tableP (n : Nat) (h : HierP) (ss ts : List Int) : List (List Int) := ss.map (fun s => ts.map (fun t => farP n h s t))
set_option maxRecDepth 100000 in
set_option maxHeartbeats 4000000 in
theorem table_walk (w : World) (hb n : Nat) (h : HierP) (wm : Int) (H : HierRep w hb n h) (hok : HOk n wm h) (A B : Option Addr) (ca cb : Nat) (ss ts : List Int) (hS : Kd.C (Kd.int .i64) w A ss.length ss) (hT : Kd.C (Kd.int .i64) w B ts.length ts) (hsl : ss.length ≤ 1000) (htl : ts.length ≤ 1000) :
  Calls Tryz.prog 45 #[.pointer (some ⟨hb, 0, none⟩), .slice A ss.length ca, .slice B ts.length cb] w fun r w' => ∃ vr, r = .returned vr ∧ Kd.R (Kd.slice 3 (Kd.int .i64)) 28 w' w.heap.size (fun _ => True) vr (tableP n h ss ts) ∧ Below w.heap.size w w' := by
 have hn9 := H.small
 have HBU := Lib.hid (buckets_walk w hb n h wm H hok B cb ts hT htl)
 have HRW : Hid (∀ W base mb N, Below w.heap.size w W → BkRep W base mb N (bkP n h ts ts.length) → ∀ s : Int, Calls Tryz.prog 99 #[.pointer (some ⟨hb, 0, none⟩), .int .i64 s, .int .i64 ts.length, .map (some mb)] W fun r w' => ∃ vr, r = .returned vr ∧ Kd.R (Kd.int .i64) 3 w' W.heap.size (fun _ => True) vr (ts.map (fun t => farP n h s t)) ∧ Below W.heap.size W w') := Lib.hid (fun W base mb N g hbk s => by
  have := row_walk W hb n h wm (H.below g) hok s ts.length htl base mb N (bkP n h ts ts.length) hbk (fun u b hb => bkP_in hok hn9 ts u b hb) (fun u => by
   have h1 := bkP_len (n := n) (h := h) (ts := ts) (u := u) ts.length
   have h2 : ts.length * n ≤ 1000 * 900 := Nat.mul_le_mul htl hn9
   omega)
  rw [rowQ_is hok hn9] at this
  exact this)
 have HSC : Hid (∀ W, Below w.heap.size w W → Kd.C (Kd.int .i64) W A ss.length ss) := Lib.hid (fun W g => Kd.C_below hS g)
 clear H hok hS hT
 obtain ⟨ns, hns⟩ : ∃ ns, ss.length = ns := ⟨_, rfl⟩
 obtain ⟨nt, hnt⟩ : ∃ nt, ts.length = nt := ⟨_, rfl⟩
 have HNS := Lib.hid hns
 rw [hns] at HSC hsl ⊢
 rw [hnt] at HBU HRW htl ⊢
 clear hns hnt
 go_enter Tryz.func45, Tryz.ntmps45
 go_wp2_with fail
 refine HBU.out.mono ?_
 rintro e W1 ⟨mb, N, rfl, hbk, hge, g1⟩
 have HBK := Lib.hid hbk
 have HB1 := Lib.hid g1
 clear hbk hge g1 HBU
 go_wp2_with fail
 go_loopw [8, 16] (fun v8 v16 wr => ∃ i : Nat, v16 = .int .i64 i ∧ i ≤ ns ∧ Hid (Kd.R (Kd.slice 3 (Kd.int .i64)) 28 wr W1.heap.size (fun _ => True) v8 ((ss.take i).map (fun s => ts.map (fun t => farP n h s t)))) ∧ Hid (Below W1.heap.size W1 wr)) (fun _ v16 _ => ns - (intOf v16).toNat)
 case atStart => exact ⟨0, rfl, by omega, Lib.hid (Kd.R_nil _ _ _ _ _), Lib.hid (Below.refl _ _)⟩
 case round =>
  obtain ⟨i, rfl, hi, HR, HB⟩ := hrel
  have HW := Lib.hid (HB1.out.trans (HB.out.mono HB1.out.size))
  by_cases hlt : i < ns
  ·have hi0 : (0 : Int) ≤ (i : Int) := Int.natCast_nonneg _
   have hi1 : (i : Int) < (ns : Int) := by omega
   obtain ⟨ad, hA, r0⟩ := Kd.at_int (HSC.out wr HW.out) (i : Int) (by omega) (by omega)
   have r0' : wr.cell? (ad.add i) = some (.int .i64 (rd ss (i : Int))) := r0
   subst hA
   clear r0
   have hil : i < ss.length := by rw [HNS.out]; exact hlt
   have HTK : Hid ((ss.take (i + 1)).map (fun s => ts.map (fun t => farP n h s t)) = (ss.take i).map (fun s => ts.map (fun t => farP n h s t)) ++ [ts.map (fun t => farP n h (rd ss (i : Int)) t)]) := Lib.hid (by
    rw [List.take_succ_eq_append_getElem hil, List.map_append, rd_get hil]
    rfl)
   have hlen : ((ss.take i).map (fun s => ts.map (fun t => farP n h s t))).length ≤ i := by simp; omega
   have HRC := Lib.hid (HRW.out wr _ _ _ HW.out (HBK.out.below HB.out) (rd ss (i : Int)))
   generalize ts.map (fun t => farP n h (rd ss (i : Int)) t) = row at *
   generalize (ss.take i).map (fun s => ts.map (fun t => farP n h s t)) = acc at *
   generalize rd ss (i : Int) = s at *
   clear hil
   go_wp2_with fail
   refine HRC.out.mono ?_
   rintro e W2 ⟨vr, rfl, hR2, g2⟩
   obtain ⟨Ra, rc, rfl, hrc, hRC⟩ := Kd.R_reads hR2
   have hw1 : W1.heap.size ≤ wr.heap.size := HB.out.size
   have HRO := Lib.hid (Kd.R_below HR.out g2)
   have HBW := Lib.hid (HB.out.trans (g2.mono HB.out.size))
   have HLT : Hid (∀ k, u8.ownBlock = some k → k < wr.heap.size) := Lib.hid (fun k hk => Kd.R_lt HR.out k hk)
   have HRP : Hid (Kd.R (Kd.int .i64) 3 W2 W1.heap.size (fun k => wr.heap.size ≤ k) (.slice Ra row.length rc) row) := Lib.hid (Kd.R_lower (Kd.R_mono (Kd.R_bound hR2) (fun k hk => hk.2.1)) hw1)
   clear hR2 hrc hRC g2 HRC r0' HR HB
   go_wp2_with (at_builtin; refine Kd.R_append (Kd.slice 3 (Kd.int .i64)) (w0 := W1) (W := W2) W1.heap.size rfl (.tmp 20) (.tmp 27) 38 28 (.slice none 0 0) 24 rfl Tryz.underlying38 info28 rfl (by decide) (by omega) _ acc row [.slice Ra row.length rc] (fun _ => True) (fun k => wr.heap.size ≤ k) rfl rfl ⟨_, rfl, HRP.out⟩ (fun k hk => ⟨trivial, fun e => by have := HLT.out k e.symm; omega⟩) (fun _ _ => trivial) HRO.out HBW.out HBW.out.size (by omega) ?_; intro v1 w3 hR3 hB3 hg3 _; have HR3 := Lib.hid hR3; have HB3 := Lib.hid hB3; clear hR3 hB3 hg3)
   go_roundw
   case measure => simp [intOf]; omega
   case rel => exact ⟨i + 1, by go_num, by omega, Lib.hid (by rw [HTK.out]; exact HR3.out), HB3⟩
  ·have HIE : Hid ((ss.take i).map (fun s => ts.map (fun t => farP n h s t)) = tableP n h ss ts) := Lib.hid (by rw [List.take_of_length_le (by rw [HNS.out]; omega)]; rfl)
   have hil : ns ≤ i := by omega
   rw [HIE.out] at HR
   go_wp2_with fail
   all_goals (try rw [Exit.noGoto_ret])
   all_goals go_ret
   all_goals exact ⟨_, rfl, Kd.R_lower HR.out HB1.out.size, HW.out⟩
end Go.Proofs.YtfkejflmhidnaaaGreat.PAll
