import Derived.Test.YtfkejflmhidnaaaGreatQHpF
import Derived.Test.YtfkejflmhidnaaaGreatQTtB
import Derived.Test.YtfkejflmhidnaaaGreatQHnD
set_option linter.all false
namespace Go.Proofs.YtfkejflmhidnaaaGreat.PAll
open RowKit YtfkejflmhidnaaaGreatW.PrintWords YtfkejflmhidnaaaGreatW.PrintLast YtfkejflmhidnaaaGreatW.PrintMore
open Hp hiding Good
def cntP (d : List Int) : Nat := d.countP fun x => decide (0 ≤ x)
structure BInv (n : Nat) (wm : Int) (d : List Int) : Prop where
 len : d.length = n
 low : ∀ x : Nat, x < n → -1 ≤ rd d (x : Int)
 high : ∀ x : Nat, x < n → rd d (x : Int) ≤ cntP d * wm
def meas (n : Nat) (wm : Int) (d : List Int) : Nat := (d.map fun x => if x < 0 then ((n : Int) * wm + 1).toNat else x.toNat).sum
theorem sum_set (f : Int → Nat) (v : Int) : ∀ (d : List Int) (b : Nat) (h : b < d.length), ((d.set b v).map f).sum + f d[b] = (d.map f).sum + f v
 | [], b, h => by simp at h
 | x :: d, 0, h => by simp; omega
 | x :: d, b + 1, h => by
  have := sum_set f v d b (by simpa using h)
  simp at this ⊢
  omega
theorem cnt_set (v : Int) : ∀ (d : List Int) (b : Nat) (h : b < d.length), cntP (d.set b v) + (if 0 ≤ d[b] then 1 else 0) = cntP d + (if 0 ≤ v then 1 else 0)
 | [], b, h => by simp at h
 | x :: d, 0, h => by
  simp only [cntP, List.set_cons_zero, List.countP_cons, List.getElem_cons_zero, decide_eq_true_eq]
  omega
 | x :: d, b + 1, h => by
  have := cnt_set v d b (by simpa using h)
  simp only [cntP, List.set_cons_succ, List.countP_cons, List.getElem_cons_succ, decide_eq_true_eq] at this ⊢
  omega
theorem rd_set_same {d : List Int} {b : Nat} (v : Int) (h : b < d.length) : rd (d.set b v) (b : Int) = v := by simp [rd, List.getD, h]
theorem rd_set_other {d : List Int} {b x : Nat} (v : Int) (h : b ≠ x) : rd (d.set b v) (x : Int) = rd d (x : Int) := by simp [rd, List.getD, h]
theorem rd_get {d : List Int} {b : Nat} (h : b < d.length) : rd d (b : Int) = d[b] := by simp [rd, List.getD, h]
theorem BInv.top {n : Nat} {wm : Int} {d : List Int} (h : BInv n wm d) (hw : 0 ≤ wm) (x : Nat) (hx : x < n) : rd d (x : Int) ≤ n * wm := by
 have h1 := h.high x hx
 have h2 : (cntP d : Int) ≤ n := by
  have : cntP d ≤ d.length := List.countP_le_length
  have := h.len; omega
 have h3 : (cntP d : Int) * wm ≤ n * wm := Int.mul_le_mul_of_nonneg_right h2 hw
 omega
theorem BInv.relax {n : Nat} {wm : Int} {d : List Int} (h : BInv n wm d) (hw : 0 ≤ wm) {a b : Nat} (ha : a < n) (hb : b < n) {w : Int} (h0 : 0 ≤ w) (h1 : w ≤ wm) (hda : 0 ≤ rd d (a : Int)) (hless : rd d (b : Int) < 0 ∨ rd d (a : Int) + w < rd d (b : Int)) :
  BInv n wm (d.set b (rd d (a : Int) + w)) ∧ meas n wm (d.set b (rd d (a : Int) + w)) < meas n wm d := by
 have hbl : b < d.length := by have := h.len; omega
 have hc := cnt_set (rd d (a : Int) + w) d b hbl
 rw [← rd_get hbl] at hc
 have hha := h.high a ha
 have hhb := h.high b hb
 have hta := h.top hw a ha
 have htb := h.top hw b hb
 have hcw : cntP d ≤ cntP (d.set b (rd d (a : Int) + w)) := by
  rw [if_pos (show (0 : Int) ≤ rd d (a : Int) + w by omega)] at hc
  split at hc <;> omega
 have hmono : (cntP d : Int) * wm ≤ cntP (d.set b (rd d (a : Int) + w)) * wm := Int.mul_le_mul_of_nonneg_right (by omega) hw
 have hnew : rd d (a : Int) + w ≤ cntP (d.set b (rd d (a : Int) + w)) * wm := by
  by_cases hneg : rd d (b : Int) < 0
  ·have hc2 : cntP (d.set b (rd d (a : Int) + w)) = cntP d + 1 := by
    rw [if_neg (by omega), if_pos (by omega)] at hc; omega
   rw [hc2, Int.natCast_add, Int.add_mul]
   simp
   omega
  ·omega
 have hnle : rd d (a : Int) + w ≤ n * wm := by
  have h2 : (cntP (d.set b (rd d (a : Int) + w)) : Int) ≤ n := by
   have : cntP (d.set b (rd d (a : Int) + w)) ≤ (d.set b (rd d (a : Int) + w)).length := List.countP_le_length
   have := h.len; simp at *; omega
  have h3 : (cntP (d.set b (rd d (a : Int) + w)) : Int) * wm ≤ n * wm := Int.mul_le_mul_of_nonneg_right h2 hw
  omega
 refine ⟨⟨by simp [h.len], fun x hx => ?_, fun x hx => ?_⟩, ?_⟩
 ·by_cases e : b = x
  ·subst e; rw [rd_set_same _ hbl]; omega
  ·rw [rd_set_other _ e]; exact h.low x hx
 ·by_cases e : b = x
  ·subst e; rw [rd_set_same _ hbl]; exact hnew
  ·rw [rd_set_other _ e]; have := h.high x hx; omega
 ·unfold meas
  have hs := sum_set (fun x => if x < 0 then ((n : Int) * wm + 1).toNat else x.toNat) (rd d (a : Int) + w) d b hbl
  rw [← rd_get hbl] at hs
  (try simp only at hs)
  rw [if_neg (show ¬ rd d (a : Int) + w < 0 by omega)] at hs
  by_cases hneg : rd d (b : Int) < 0
  ·rw [if_pos hneg] at hs
   omega
  ·rw [if_neg hneg] at hs
   omega
theorem BInv.start (n s : Nat) (hs : s < n) (wm : Int) (hw : 0 ≤ wm) : BInv n wm ((List.replicate n (-1)).set s 0) := by
 have hl : s < (List.replicate n (-1 : Int)).length := by simpa using hs
 have hr : ∀ x : Nat, rd (List.replicate n (-1 : Int)) (x : Int) = -1 ∨ rd (List.replicate n (-1 : Int)) (x : Int) = 0 := fun x => by
  simp only [rd, List.getD, Int.toNat_natCast, List.getElem?_replicate]
  split
  ·left; rfl
  ·right; rfl
 have hnn : (0 : Int) ≤ (cntP ((List.replicate n (-1)).set s 0) : Int) * wm := Int.mul_nonneg (by omega) hw
 refine ⟨by simp, fun x hx => ?_, fun x hx => ?_⟩
 ·by_cases e : s = x
  ·subst e; rw [rd_set_same _ hl]; omega
  ·rw [rd_set_other _ e]; rcases hr x with h | h <;> omega
 ·by_cases e : s = x
  ·subst e; rw [rd_set_same _ hl]; exact hnn
  ·rw [rd_set_other _ e]; rcases hr x with h | h <;> omega
def LOk (n : Nat) (wm : Int) (l : List S156) : Prop := ∀ x ∈ l, 0 ≤ x.f0 ∧ x.f0 < n ∧ 0 ≤ x.f1 ∧ x.f1 < n ∧ 0 ≤ x.f2.f0 ∧ x.f2.f0 ≤ wm
theorem eq_rep {x : List Int} {n : Nat} (hl : x.length = n) (h : ∀ j : Nat, j < n → rd x (j : Int) = -1) : x = List.replicate n (-1) := by
 refine List.ext_getElem (by simpa using hl) (fun j h1 h2 => ?_)
 have := h j (by omega)
 rw [rd_get (by omega)] at this
 rw [this]; simp
def NS (P : Int → Int → Prop) (n : Nat) (d : List Int) : Prop := ∀ x : Nat, x < n → 0 ≤ rd d (x : Int) → P x (rd d (x : Int))
theorem NS.relax {P : Int → Int → Prop} {n : Nat} {d : List Int} (h : NS P n d) (hl : d.length = n) {b : Nat} (hb : b < n) {v : Int} (hv : P b v) : NS P n (d.set b v) := fun x hx h0 => by
 by_cases e : b = x
 ·subst e; rw [rd_set_same _ (by omega)]; exact hv
 ·rw [rd_set_other _ e] at h0 ⊢; exact h x hx h0
theorem rd132_mem (l : List S156) (i : Nat) (h : i < l.length) : rd_T156 l (i : Int) ∈ l := by
 have e : rd_T156 l (i : Int) = l[i] := by simp [rd_T156, List.getD, h]
 rw [e]; exact List.getElem_mem _
def NPost (w : World) (Q : Prop) (r : Ending) (w' : World) : Prop := ∃ b, r = .returned (.bool b) ∧ (b = true → Q) ∧ Below w.heap.size w w'
theorem NPost.mk {w : World} {Q : Prop} {r : Ending} {w' : World} (b : Bool) (h1 : r = .returned (.bool b)) (h2 : b = true → Q) (h3 : Below w.heap.size w w') : NPost w Q r w' := ⟨b, h1, h2, h3⟩
set_option maxRecDepth 100000 in
set_option maxHeartbeats 4000000 in
theorem near_walk (w : World) (t : TP) (p : TAt) (h : TRep w t p) (wm : Int) (hw0 : 0 ≤ wm) (hw1 : wm ≤ 1125899906842624) (hL : LOk t.n wm t.l) (u v wo most : Int) (P : Int → Int → Prop)
  (hP0 : P u 0) (hP : ∀ x ∈ t.l, x.f0 ≠ wo → x.f1 ≠ wo → ∀ d, P x.f0 d → P x.f1 (d + x.f2.f0)) :
  Calls Tryz.prog 113 #[tval t p, .int .i64 u, .int .i64 v, .int .i64 wo, .int .i64 most] w fun r w' => NPost w (∃ d, P v d ∧ 0 ≤ d ∧ d ≤ most) r w' := by
 have HT := Lib.hid (TBx.new w t p)
 have HIS : Hid (∀ W, Below w.heap.size w W → ∀ x : Int, Calls Tryz.prog 114 #[tval t p, .int .i64 x] W fun r w' => r = .returned (.bool (isP t x)) ∧ Below W.heap.size W w') := Lib.hid (fun W g x => is_walk W t p (h.below g) x)
 have hn := h.small
 have hfew := h.few
 have HR := Lib.hid h
 have HU : Hid (isP t u = true → 0 ≤ u ∧ u < t.n) := Lib.hid (fun e => by unfold isP at e; simp at e; omega)
 have HV : Hid (isP t v = true → 0 ≤ v ∧ v < t.n) := Lib.hid (fun e => by unfold isP at e; simp at e; omega)
 generalize hbu : isP t u = bu at *
 generalize hbv : isP t v = bv at *
 have HCU : Hid (∀ W, Below w.heap.size w W → Calls Tryz.prog 114 #[tval t p, .int .i64 u] W fun r w' => r = .returned (.bool bu) ∧ Below W.heap.size W w') := Lib.hid (by rw [← hbu]; exact fun W g => HIS.out W g u)
 have HCV : Hid (∀ W, Below w.heap.size w W → Calls Tryz.prog 114 #[tval t p, .int .i64 v] W fun r w' => r = .returned (.bool bv) ∧ Below W.heap.size W w') := Lib.hid (by rw [← hbv]; exact fun W g => HIS.out W g v)
 have HLO := Lib.hid hL
 have HP0 := Lib.hid hP0
 have HP := Lib.hid hP
 clear h hL hP0 hP HIS hbu hbv
 obtain ⟨n, inn, l, lost⟩ := t
 obtain ⟨A1, k1, A2, k2, A3, k3⟩ := p
 simp only [tval] at *
 obtain ⟨c0, c1, c2, c3, l0⟩ := HT.out.cells
 simp only [tcells] at c0 c1 c2 c3 l0 HT
 obtain ⟨len, hl2⟩ : ∃ len, l.length = len := ⟨_, rfl⟩
 obtain ⟨l1, hl1⟩ : ∃ l1, inn.length = l1 := ⟨_, rfl⟩
 obtain ⟨l3, hl3⟩ : ∃ l3, lost.length = l3 := ⟨_, rfl⟩
 have HTB : Hid (TBx w (w.alloc (.cells #[.int .i64 n, .slice A1 l1 k1, .slice A2 len k2, .slice A3 l3 k3] 121)) ⟨n, inn, l, lost⟩ ⟨A1, k1, A2, k2, A3, k3⟩) := Lib.hid (by rw [← hl1, ← hl2, ← hl3]; exact HT.out)
 rw [hl1, hl2, hl3] at c0 c1 c2 c3 l0 HCU HCV ⊢
 have HL := Lib.hid (And.intro hl1 (And.intro hl2 hl3))
 rw [hl2] at hfew
 clear HT hl1 hl2 hl3
 have hcells : ∀ W, TBx w W ⟨n, inn, l, lost⟩ ⟨A1, k1, A2, k2, A3, k3⟩ → W.cell? ⟨w.heap.size, 0, none⟩ = some (.int .i64 n) ∧ W.cell? ⟨w.heap.size, 1, none⟩ = some (.slice A1 l1 k1) ∧ W.cell? ⟨w.heap.size, 2, none⟩ = some (.slice A2 len k2) ∧ W.cell? ⟨w.heap.size, 3, none⟩ = some (.slice A3 l3 k3) ∧ w.heap.size < W.heap.size := fun W hh => by
  obtain ⟨c0, c1, c2, c3, l0⟩ := hh.cells
  have hll := HL.out
  simp only at c0 c1 c2 c3 l0
  rw [hll.1] at c1
  rw [hll.2.1] at c2
  rw [hll.2.2] at c3
  exact ⟨c0, c1, c2, c3, l0⟩
 have HCE := Lib.hid hcells
 have HC2 : Hid (Kd.C k156 w A2 len l) := Lib.hid (by rw [← HL.out.2.1]; exact HR.out.r2)
 clear hcells
 obtain ⟨i0, hi0, hz0, hz1, hz2⟩ := info_parts info3'
 go_enter Tryz.func113, Tryz.ntmps113
 go_wp2_with fail
 generalize w.alloc (.cells #[.int .i64 n, .slice A1 l1 k1, .slice A2 len k2, .slice A3 l3 k3] 121) = W1 at *
 refine (HCU.out W1 HTB.out.bel).mono ?_
 rintro e W2 ⟨rfl, g⟩
 have HT2 := Lib.hid (HTB.out.below g)
 clear c0 c1 c2 c3 l0 g
 obtain ⟨c0, c1, c2, c3, l0⟩ := HCE.out W2 HT2.out
 cases bu with
 | false =>
  go_wp2_with fail
  all_goals (try rw [Exit.noGoto_ret])
  all_goals go_ret
  all_goals exact NPost.mk false rfl (fun h => by cases h) HT2.out.bel
 | true =>
  go_wp2_with fail
  refine (HCV.out W2 HT2.out.bel).mono ?_
  rintro e W3 ⟨rfl, g⟩
  have HT3 := Lib.hid (HT2.out.below g)
  clear c0 c1 c2 c3 l0 g
  obtain ⟨c0, c1, c2, c3, l0⟩ := HCE.out W3 HT3.out
  cases bv with
  | false =>
   go_wp2_with fail
   all_goals (try rw [Exit.noGoto_ret])
   all_goals go_ret
   all_goals exact NPost.mk false rfl (fun h => by cases h) HT3.out.bel
  | true =>
   by_cases huo : u = wo
   ·have e1 : (u == wo) = true := by simp [huo]
    clear huo
    go_wp2_with fail
    all_goals (try rw [Exit.noGoto_ret])
    all_goals go_ret
    all_goals exact NPost.mk false rfl (fun h => by cases h) HT3.out.bel
   have e1 : (u == wo) = false := by simp [huo]
   by_cases hvo : v = wo
   ·have e2 : (v == wo) = true := by simp [hvo]
    clear huo hvo
    go_wp2_with fail
    all_goals (try rw [Exit.noGoto_ret])
    all_goals go_ret
    all_goals exact NPost.mk false rfl (fun h => by cases h) HT3.out.bel
   have e2 : (v == wo) = false := by simp [hvo]
   have hu := HU.out (by trivial)
   have hv := HV.out (by trivial)
   clear huo hvo HU HV HCU HCV
   obtain ⟨un, rfl⟩ := Int.eq_ofNat_of_zero_le hu.1
   obtain ⟨vn, rfl⟩ := Int.eq_ofNat_of_zero_le hv.1
   have hun : un < n := by have := hu.2; omega
   have hvn : vn < n := by have := hv.2; omega
   clear hu hv
   go_wp2_with (first | (at_make; refine wpList_make_full _ (by rfl) _ _ _ (by rfl) W3.heap.size 3 i0 (.int .i64 0) 1 Tryz.underlying28 hi0 hz0 hz1 .i64 .i64 _ _ n (by rfl) (by rfl) rfl rfl (by rw [hz2]; omega) (by simp only [maxLen]; omega) (Nat.le_refl _) ?_; intro w4 hown hgrow; have HO4 := Lib.hid hown; have HG4 := Lib.hid hgrow; clear hown hgrow))
   have HD4 : Hid (OwnI w4 W3.heap.size W3.heap.size n (List.replicate n 0)) := Lib.hid (by
    unfold OwnI
    rw [ints_zero]
    simpa [Value.cells] using HO4.out)
   have HB4 : Hid (Below W3.heap.size W3 w4) := Lib.hid ((Below.refl W3.heap.size W3).grown HG4.out (Nat.le_refl _) (fun k hk => by cases hk))
   clear HO4 HG4 c0 c1 c2 c3 l0
   have h3n : W3.heap.size ≤ w4.heap.size := HB4.out.size
   have HT4 := Lib.hid (HT3.out.below HB4.out)
   generalize hgb : W3.heap.size = gb at *
   have HGB := Lib.hid hgb
   clear hgb
   have HTW : Hid (∀ W, Below gb W3 W → TBx w W ⟨n, inn, l, lost⟩ ⟨A1, k1, A2, k2, A3, k3⟩) := Lib.hid (fun W g => HT3.out.below (by rw [HGB.out]; exact g))
   go_loopw [12] (fun v12 wr => ∃ (i : Nat) (x : List Int), v12 = .int .i64 i ∧ i ≤ n ∧ Hid (OwnI wr gb gb n x) ∧ Hid (Below gb W3 wr) ∧ Hid (∀ j : Nat, j < i → rd x j = -1)) (fun v12 _ => n - (intOf v12).toNat)
   case atStart => exact ⟨0, _, rfl, by omega, HD4, HB4, Lib.hid (fun j hj => by omega)⟩
   case round =>
    obtain ⟨i, x, rfl, hi, HO, HB, HX⟩ := hrel
    clear HD4 HB4 HT4
    obtain ⟨c0, c1, c2, c3, l0⟩ := HCE.out wr (HTW.out wr HB.out)
    by_cases hlt : i < n
    ·obtain ⟨d0, f0, l4⟩ := HO.out.facts i hlt
     have hi0' : (0 : Int) ≤ (i : Int) := Int.natCast_nonneg _
     have hi1 : (i : Int) < (n : Int) := by omega
     generalize rd x (i : Int) = y at d0
     go_wp2_with fail
     go_roundw
     case measure => simp [intOf]; omega
     case rel =>
      refine ⟨i + 1, x.set i (-1), by go_num, by omega, Lib.hid (HO.out.set i (-1)), Lib.hid (HB.out.setCell (p := ⟨gb, i, none⟩) (Nat.le_refl _) _), Lib.hid (fun j hj => ?_)⟩
      have hlen := HO.out.len
      by_cases e : i = j
      ·subst e; exact rd_set_same (-1) (by omega)
      ·rw [rd_set_other (-1) e]; exact HX.out j (by omega)
    ·have HREP : Hid (x = List.replicate n (-1)) := Lib.hid (eq_rep HO.out.len (fun j hj => HX.out j (by omega)))
     have hin : n ≤ i := by omega
     obtain ⟨d0, f0, l4⟩ := HO.out.facts un hun
     have hu0 : (0 : Int) ≤ (un : Int) := Int.natCast_nonneg _
     have hu1 : (un : Int) < (n : Int) := by omega
     generalize rd x (un : Int) = y at d0
     have HO2 := Lib.hid (HO.out.set un 0)
     have HB2 := Lib.hid (HB.out.setCell (p := ⟨gb, un, none⟩) (Nat.le_refl _) (.int .i64 0))
     have HI2 : Hid (BInv n wm (x.set un 0)) := Lib.hid (by rw [HREP.out]; exact BInv.start n un hun wm hw0)
     have HN2 : Hid (NS P n (x.set un 0)) := Lib.hid (fun z hz h0 => by
      have hlen := HO.out.len
      by_cases e : un = z
      ·subst e; rw [rd_set_same _ (by omega)]; exact HP0.out
      ·rw [rd_set_other _ e] at h0
       rw [HREP.out] at h0
       exfalso
       rw [rd_get (by simpa using hz)] at h0
       simp at h0)
     generalize x.set un 0 = x2 at *
     clear HO HX HREP
     go_wp2_with fail
     generalize wr.setCell ⟨gb, un, none⟩ (.int .i64 0) = W5 at *
     clear c0 c1 c2 c3 l0 d0 f0 l4 HB
     go_loopg [13] (2 * meas n wm x2 + 2) (fun g v13 wr => ∃ (more : Bool) (d : List Int), v13 = .bool more ∧ Hid (OwnI wr gb gb n d) ∧ Hid (Below gb W3 wr) ∧ Hid (BInv n wm d) ∧ Hid (NS P n d) ∧ Hid (2 * meas n wm d + (if more = true then 1 else 0) < g))
     case atStart => exact ⟨true, x2, rfl, HO2, HB2, HI2, HN2, Lib.hid (by simp)⟩
     case round =>
      obtain ⟨more, d, rfl, HO, HB, HI, HN, HM⟩ := hrel
      clear HO2 HB2 HI2 HN2
      obtain ⟨g, rfl⟩ : ∃ g, gk = g + 1 := ⟨gk - 1, by have := HM.out; omega⟩
      obtain ⟨c0, c1, c2, c3, l0⟩ := HCE.out wr (HTW.out wr HB.out)
      cases more with
      | false =>
       obtain ⟨d0, f0, l4⟩ := HO.out.facts vn hvn
       have hv0 : (0 : Int) ≤ (vn : Int) := Int.natCast_nonneg _
       have hv1 : (vn : Int) < (n : Int) := by omega
       have HQ : Hid (0 ≤ rd d (vn : Int) → rd d (vn : Int) ≤ most → ∃ e, P vn e ∧ 0 ≤ e ∧ e ≤ most) := Lib.hid (fun h0 h1 => ⟨_, HN.out vn hvn h0, h0, h1⟩)
       generalize rd d (vn : Int) = q at *
       by_cases hq0 : q ≥ 0
       ·have e3 : decide (q ≥ 0) = true := by simpa using hq0
        by_cases hq1 : q ≤ most
        ·have e4 : decide (q ≤ most) = true := by simpa using hq1
         have HQQ := Lib.hid (HQ.out hq0 hq1)
         clear hq0 hq1 HQ
         go_wp2_with fail
         all_goals (try rw [Exit.noGoto_ret])
         all_goals go_ret
         all_goals exact NPost.mk true rfl (fun _ => HQQ.out) (HTW.out wr HB.out).bel
        ·have e4 : decide (q ≤ most) = false := by simpa using hq1
         clear hq0 hq1 HQ
         go_wp2_with fail
         all_goals (try rw [Exit.noGoto_ret])
         all_goals go_ret
         all_goals exact NPost.mk false rfl (fun h => by cases h) (HTW.out wr HB.out).bel
       ·have e3 : decide (q ≥ 0) = false := by simpa using hq0
        clear hq0 HQ
        go_wp2_with fail
        all_goals (try rw [Exit.noGoto_ret])
        all_goals go_ret
        all_goals exact NPost.mk false rfl (fun h => by cases h) (HTW.out wr HB.out).bel
      | true =>
       go_wp2_with fail
       go_loopw [13, 14] (fun v13 v14 wr => ∃ (i : Nat) (m1 : Bool) (d1 : List Int), v13 = .bool m1 ∧ v14 = .int .i64 i ∧ i ≤ len ∧ Hid (OwnI wr gb gb n d1) ∧ Hid (Below gb W3 wr) ∧ Hid (BInv n wm d1) ∧ Hid (NS P n d1) ∧ Hid (2 * meas n wm d1 + (if m1 = true then 1 else 0) ≤ 2 * meas n wm d)) (fun _ v14 _ => len - (intOf v14).toNat)
       case atStart => exact ⟨0, false, d, rfl, rfl, by omega, HO, HB, HI, HN, Lib.hid (by simp)⟩
       case round =>
        obtain ⟨i, m1, d1, rfl, rfl, hi, HO1, HB1, HI1, HN1, HM1⟩ := hrel
        clear HO HB HI HN c0 c1 c2 c3 l0
        obtain ⟨c0, c1, c2, c3, l0⟩ := HCE.out wr (HTW.out wr HB1.out)
        by_cases hil : i < len
        rotate_left
        ·have hle : len ≤ i := by omega
         go_wp2_with fail
         go_roundg g
         case measure => omega
         case rel => exact ⟨m1, d1, rfl, HO1, HB1, HI1, HN1, Lib.hid (by have h1 := HM1.out; have h2 := HM.out; simp at h2; omega)⟩
        have hlw : i < l.length := by have := HL.out.2.1; omega
        obtain ⟨ad, hA2, r0, r1, r2, r3, r4⟩ := at_T156 (Kd.C_below HC2.out (HTW.out wr HB1.out).bel) (i : Int) (by omega) (by omega)
        have hmem := rd132_mem l i hlw
        have HEB := Lib.hid (HLO.out _ hmem)
        have HPE := Lib.hid (HP.out _ hmem)
        simp only [Int.toNat_natCast] at r0 r1 r2 r3 r4
        generalize rd_T156 l (i : Int) = e at *
        obtain ⟨a, b, x, y, z⟩ := e
        simp only at r0 r1 r2 r3 r4 HEB HPE
        obtain ⟨ha0, ha1, hb0, hb1, hx0, hx1⟩ := HEB.out
        obtain ⟨an, rfl⟩ := Int.eq_ofNat_of_zero_le ha0
        obtain ⟨bn, rfl⟩ := Int.eq_ofNat_of_zero_le hb0
        have han : an < n := by omega
        have hbn : bn < n := by omega
        have hi0 : (0 : Int) ≤ (i : Int) := Int.natCast_nonneg _
        have hi1 : (i : Int) < (len : Int) := by omega
        have h3r : gb ≤ wr.heap.size := by have h1 := HGB.out; have h2 := HB1.out.size; omega
        have hO6 : OwnI (wr.alloc (.cells #[.int .i64 an, .int .i64 bn, .int .i64 x, .int .i64 y, .int .i64 z] 156)) gb gb n d1 := own_only HO1.out ((Only.refl wr (fun _ => False)).alloc _) (fun _ _ f => f)
        have hB6 : Below gb W3 (wr.alloc (.cells #[.int .i64 an, .int .i64 bn, .int .i64 x, .int .i64 y, .int .i64 z] 156)) := HB1.out.alloc h3r _
        have hX6 := blk_new wr (.cells #[.int .i64 an, .int .i64 bn, .int .i64 x, .int .i64 y, .int .i64 z] 156)
        have HO6 := Lib.hid hO6
        have HB6 := Lib.hid hB6
        have HX6 := Lib.hid hX6
        clear hO6 hB6 hX6 HO1 HB1 HEB hmem
        subst hA2
        go_wp2_with fail
        obtain ⟨da, fa, lg⟩ := HO6.out.facts an han
        obtain ⟨db, fb, _⟩ := HO6.out.facts bn hbn
        have hta := HI1.out.top hw0 an han
        have hla := HI1.out.low an han
        have hlb := HI1.out.low bn hbn
        have hnw : (n : Int) * wm ≤ 1000 * 1125899906842624 := Int.mul_le_mul (by omega) hw1 hw0 (by omega)
        have hwrap : IntKind.i64.wrap (rd d1 (an : Int) + x) = rd d1 (an : Int) + x := i64w rfl (by omega) (by omega)
        obtain ⟨B, hB⟩ : ∃ B, decide ((an : Int) ≠ wo ∧ (bn : Int) ≠ wo ∧ 0 ≤ rd d1 (an : Int) ∧ (rd d1 (bn : Int) < 0 ∨ rd d1 (an : Int) + x < rd d1 (bn : Int))) = B := ⟨_, rfl⟩
        have HBT : Hid (B = true → (an : Int) ≠ wo ∧ (bn : Int) ≠ wo ∧ 0 ≤ rd d1 (an : Int) ∧ (rd d1 (bn : Int) < 0 ∨ rd d1 (an : Int) + x < rd d1 (bn : Int))) := Lib.hid (fun e => by rw [e] at hB; exact of_decide_eq_true hB)
        have HRX : Hid (B = true → BInv n wm (d1.set bn (rd d1 (an : Int) + x)) ∧ meas n wm (d1.set bn (rd d1 (an : Int) + x)) < meas n wm d1 ∧ NS P n (d1.set bn (rd d1 (an : Int) + x))) := Lib.hid (fun e => by
         obtain ⟨e1, e2, e3, e4⟩ := HBT.out e
         have h1 := HI1.out.relax hw0 han hbn hx0 hx1 e3 e4
         exact ⟨h1.1, h1.2, HN1.out.relax HI1.out.len hbn (HPE.out e1 e2 _ (HN1.out an han e3))⟩)
        have HSET : Hid (∃ dn, d1.set bn (rd d1 (an : Int) + x) = dn) := Lib.hid ⟨_, rfl⟩
        have x0' := (blk_cell HX6.out 0).trans rfl
        have x1' := (blk_cell HX6.out 1).trans rfl
        have x2' := (blk_cell HX6.out 2).trans rfl
        have lx := blk_lt HX6.out
        have ka0 : (0 : Int) ≤ (an : Int) := Int.natCast_nonneg _
        have kb0 : (0 : Int) ≤ (bn : Int) := Int.natCast_nonneg _
        have HSW : Hid (∀ W, OwnI W gb gb n d1 → OwnI (W.setCell ⟨gb, bn, none⟩ (.int .i64 (rd d1 (an : Int) + x))) gb gb n (d1.set bn (rd d1 (an : Int) + x))) := Lib.hid (fun W hh => hh.set bn _)
        generalize rd d1 (an : Int) = qa at *
        generalize rd d1 (bn : Int) = qb at *
        generalize d1.set bn (qa + x) = dn at *
        clear r0 r1 r2 r3 r4 HSET hta hnw ha0 hb0 c0 c1 c2 c3
        go_cut [106] from 64 to 106 (fun v106 wx => v106 = .bool B ∧ wx = (wr.alloc (.cells #[.int .i64 an, .int .i64 bn, .int .i64 x, .int .i64 y, .int .i64 z] 156)).drew)
        case first =>
         by_cases h1 : (an : Int) = wo
         ·have e3 : ((an : Int) == wo) = true := by simp [h1]
          have e4 : ((an : Int) != wo) = false := by simp [h1]
          have HV : Hid (B = false) := Lib.hid (by rw [← hB]; simp [h1])
          clear h1 hB
          go_region
          all_goals (try go_wp2_with fail)
          all_goals go_meet
          all_goals exact ⟨by rw [HV.out], rfl⟩
         have e3 : ((an : Int) == wo) = false := by simp [h1]
         have e4 : ((an : Int) != wo) = true := by simp [h1]
         by_cases h2 : (bn : Int) = wo
         ·have e5 : ((bn : Int) == wo) = true := by simp [h2]
          have e6 : ((bn : Int) != wo) = false := by simp [h2]
          have HV : Hid (B = false) := Lib.hid (by rw [← hB]; simp [h2])
          clear h1 h2 hB
          go_region
          all_goals (try go_wp2_with fail)
          all_goals go_meet
          all_goals exact ⟨by rw [HV.out], rfl⟩
         have e5 : ((bn : Int) == wo) = false := by simp [h2]
         have e6 : ((bn : Int) != wo) = true := by simp [h2]
         by_cases h3 : qa ≥ 0
         rotate_left
         ·have e7 : decide (qa ≥ 0) = false := by simpa using h3
          have HV : Hid (B = false) := Lib.hid (by rw [← hB]; exact decide_eq_false (fun ⟨_, _, h, _⟩ => h3 h))
          clear h1 h2 h3 hB
          go_region
          all_goals (try go_wp2_with fail)
          all_goals go_meet
          all_goals exact ⟨by rw [HV.out], rfl⟩
         have e7 : decide (qa ≥ 0) = true := by simpa using h3
         by_cases h4 : qb < 0
         ·have e8 : decide (qb < 0) = true := by simpa using h4
          have HV : Hid (B = true) := Lib.hid (by rw [← hB]; exact decide_eq_true ⟨h1, h2, h3, Or.inl h4⟩)
          clear h1 h2 h3 h4 hB
          go_region
          all_goals (try go_wp2_with fail)
          all_goals go_meet
          all_goals exact ⟨by rw [HV.out], rfl⟩
         have e8 : decide (qb < 0) = false := by simpa using h4
         by_cases h5 : qa + x < qb
         ·have e9 : decide (qa + x < qb) = true := by simpa using h5
          have HV : Hid (B = true) := Lib.hid (by rw [← hB]; exact decide_eq_true ⟨h1, h2, h3, Or.inr h5⟩)
          clear h1 h2 h3 h4 h5 hB
          go_region
          all_goals (try go_wp2_with fail)
          all_goals go_meet
          all_goals exact ⟨by rw [HV.out], rfl⟩
         ·have e9 : decide (qa + x < qb) = false := by simpa using h5
          have HV : Hid (B = false) := Lib.hid (by rw [← hB]; exact decide_eq_false (fun ⟨_, _, _, h⟩ => h.elim h4 h5))
          clear h1 h2 h3 h4 h5 hB
          go_region
          all_goals (try go_wp2_with fail)
          all_goals go_meet
          all_goals exact ⟨by rw [HV.out], rfl⟩
        case rest =>
        obtain ⟨rfl, rfl⟩ := hcut
        cases B with
        | false =>
         clear da fa db fb lg HSW HRX HBT
         go_wp2_with fail
         go_roundw
         case measure => simp [intOf]; omega
         case rel => exact ⟨i + 1, m1, d1, rfl, by go_num, by omega, Lib.hid (own_only HO6.out ((Only.refl _ (fun _ => False)).drewN 1) (fun _ _ f => f)), Lib.hid HB6.out.drew, HI1, HN1, HM1⟩
        | true =>
         have HRY := Lib.hid (HRX.out rfl)
         have hilen : i < len := hil
         clear HRX HBT hB
         have y0 : ((wr.alloc (.cells #[.int .i64 an, .int .i64 bn, .int .i64 x, .int .i64 y, .int .i64 z] 156)).drew).cell? ⟨wr.heap.size, 0, none⟩ = some (.int .i64 an) := x0'
         have y1 : ((wr.alloc (.cells #[.int .i64 an, .int .i64 bn, .int .i64 x, .int .i64 y, .int .i64 z] 156)).drew).cell? ⟨wr.heap.size, 1, none⟩ = some (.int .i64 bn) := x1'
         have y2 : ((wr.alloc (.cells #[.int .i64 an, .int .i64 bn, .int .i64 x, .int .i64 y, .int .i64 z] 156)).drew).cell? ⟨wr.heap.size, 2, none⟩ = some (.int .i64 x) := x2'
         have ya : ((wr.alloc (.cells #[.int .i64 an, .int .i64 bn, .int .i64 x, .int .i64 y, .int .i64 z] 156)).drew).cell? ⟨gb, an, none⟩ = some (.int .i64 qa) := da
         have yb : ((wr.alloc (.cells #[.int .i64 an, .int .i64 bn, .int .i64 x, .int .i64 y, .int .i64 z] 156)).drew).cell? ⟨gb, bn, none⟩ = some (.int .i64 qb) := db
         have yl : wr.heap.size < ((wr.alloc (.cells #[.int .i64 an, .int .i64 bn, .int .i64 x, .int .i64 y, .int .i64 z] 156)).drew).heap.size := lx
         have HO7 : Hid (OwnI ((wr.alloc (.cells #[.int .i64 an, .int .i64 bn, .int .i64 x, .int .i64 y, .int .i64 z] 156)).drew) gb gb n d1) := Lib.hid (own_only HO6.out ((Only.refl _ (fun _ => False)).drewN 1) (fun _ _ f => f))
         have HB7 : Hid (Below gb W3 ((wr.alloc (.cells #[.int .i64 an, .int .i64 bn, .int .i64 x, .int .i64 y, .int .i64 z] 156)).drew)) := Lib.hid HB6.out.drew
         clear x0' x1' x2' da db fa fb lx lg HO6 HB6 HX6
         generalize ((wr.alloc (.cells #[.int .i64 an, .int .i64 bn, .int .i64 x, .int .i64 y, .int .i64 z] 156)).drew) = wq at *
         obtain ⟨_, fb, yg⟩ := HO7.out.facts bn hbn
         go_wp2_with fail
         go_region
         all_goals (try go_wp2_with fail)
         go_roundw
         case measure => simp [intOf]; omega
         case rel =>
          obtain ⟨z1, z2, z3⟩ := HRY.out
          exact ⟨i + 1, true, dn, rfl, by go_num, by omega, Lib.hid (own_only (HSW.out _ HO7.out) ((Only.refl _ (fun _ => False)).drewN 1) (fun _ _ f => f)), Lib.hid (HB7.out.setCell (p := ⟨gb, bn, none⟩) (Nat.le_refl _) _).drew, Lib.hid z1, Lib.hid z3, Lib.hid (by have := HM1.out; rw [if_pos rfl]; split at this <;> omega)⟩
def TV (w : World) (t : TP) (S1 S2 S3 : Value) : Prop := ∃ p : TAt, TRep w t p ∧ S1 = .slice p.A1 t.inn.length p.c1 ∧ S2 = .slice p.A2 t.l.length p.c2 ∧ S3 = .slice p.A3 t.lost.length p.c3
theorem TV.below {w w1 : World} {t : TP} {S1 S2 S3 : Value} (h : TV w t S1 S2 S3) (g : Below w.heap.size w w1) : TV w1 t S1 S2 S3 := by
 obtain ⟨p, h1, h2⟩ := h
 exact ⟨p, h1.below g, h2⟩
theorem TV.forms {w : World} {t : TP} {S1 S2 S3 : Value} (h : TV w t S1 S2 S3) : ∃ (A1 : Option Addr) (l1 k1 : Nat) (A2 : Option Addr) (l2 k2 : Nat) (A3 : Option Addr) (l3 k3 : Nat), S1 = .slice A1 l1 k1 ∧ S2 = .slice A2 l2 k2 ∧ S3 = .slice A3 l3 k3 ∧ l2 = t.l.length ∧ l2 ≤ k2 ∧ Kd.C k156 w A2 l2 t.l ∧ t.inn.length = t.n ∧ t.lost.length = t.n ∧ l1 = t.n ∧ l3 = t.n ∧ l1 ≤ k1 ∧ l3 ≤ k3 ∧ Kd.C (Kd.int .i64) w A1 l1 t.inn ∧ Kd.C (Kd.int .i64) w A3 l3 t.lost := by
 obtain ⟨p, h, rfl, rfl, rfl⟩ := h
 exact ⟨_, _, _, _, _, _, _, _, _, rfl, rfl, rfl, rfl, h.k2, h.r2, h.e1, h.e3, h.e1, h.e3, h.k1, h.k3, h.r1, h.r3⟩
theorem TV.small {w : World} {t : TP} {S1 S2 S3 : Value} (h : TV w t S1 S2 S3) : t.n ≤ 1000 := by obtain ⟨p, h1, h2⟩ := h; exact h1.small
theorem TV.is {w : World} {t : TP} {S1 S2 S3 : Value} (h : TV w t S1 S2 S3) (v : Int) : Calls Tryz.prog 114 #[.agg #[.int .i64 t.n, S1, S2, S3], .int .i64 v] w fun r w' => r = .returned (.bool (isP t v)) ∧ Below w.heap.size w w' := by
 obtain ⟨p, h1, rfl, rfl, rfl⟩ := h; exact is_walk w t p h1 v
theorem TV.way {w : World} {t : TP} {S1 S2 S3 : Value} (h : TV w t S1 S2 S3) (u v : Int) : Calls Tryz.prog 81 #[.agg #[.int .i64 t.n, S1, S2, S3], .int .i64 u, .int .i64 v] w fun r w' => WPost w (wayP t.l u v) r w' := by
 obtain ⟨p, h1, rfl, rfl, rfl⟩ := h; exact way_walk w t p h1 u v
def RowPost (w : World) (l : List Int) (r : Ending) (w' : World) : Prop := ∃ (A : Option Addr) (c : Nat), r = .returned (.slice A l.length c) ∧ l.length ≤ c ∧ Kd.C (Kd.int .i64) w' A l.length l ∧ Below w.heap.size w w'
theorem RowPost.of {w : World} {l : List Int} {r : Ending} {w' : World} (h : ∃ vr, r = .returned vr ∧ Kd.R (Kd.int .i64) 3 w' w.heap.size (fun _ => True) vr l ∧ Below w.heap.size w w') : RowPost w l r w' := by
 obtain ⟨vr, rfl, h1, h2⟩ := h
 obtain ⟨A, c, rfl, hc, hC⟩ := Kd.R_reads h1
 exact ⟨A, c, rfl, hc, hC, h2⟩
theorem TV.outs {w : World} {t : TP} {S1 S2 S3 : Value} (h : TV w t S1 S2 S3) (v : Int) : Calls Tryz.prog 80 #[.agg #[.int .i64 t.n, S1, S2, S3], .int .i64 v] w fun r w' => RowPost w (rowB t.n fun x => (wayP t.l v x).isSome) r w' := by
 obtain ⟨p, h1, rfl, rfl, rfl⟩ := h; exact (outs_walk w t p h1 v).mono (fun r w' h => RowPost.of h)
theorem TV.ins {w : World} {t : TP} {S1 S2 S3 : Value} (h : TV w t S1 S2 S3) (v : Int) : Calls Tryz.prog 82 #[.agg #[.int .i64 t.n, S1, S2, S3], .int .i64 v] w fun r w' => RowPost w (rowB t.n fun x => (wayP t.l x v).isSome) r w' := by
 obtain ⟨p, h1, rfl, rfl, rfl⟩ := h; exact (ins_walk w t p h1 v).mono (fun r w' h => RowPost.of h)
theorem TV.near {w : World} {t : TP} {S1 S2 S3 : Value} (h : TV w t S1 S2 S3) (wm : Int) (hw0 : 0 ≤ wm) (hw1 : wm ≤ 1125899906842624) (hL : LOk t.n wm t.l) (u v wo most : Int) (P : Int → Int → Prop)
  (hP0 : P u 0) (hP : ∀ x ∈ t.l, x.f0 ≠ wo → x.f1 ≠ wo → ∀ d, P x.f0 d → P x.f1 (d + x.f2.f0)) :
  Calls Tryz.prog 113 #[.agg #[.int .i64 t.n, S1, S2, S3], .int .i64 u, .int .i64 v, .int .i64 wo, .int .i64 most] w fun r w' => NPost w (∃ d, P v d ∧ 0 ≤ d ∧ d ≤ most) r w' := by
 obtain ⟨p, h1, rfl, rfl, rfl⟩ := h; exact near_walk w t p h1 wm hw0 hw1 hL u v wo most P hP0 hP
def TB (W : World) (g : Nat) (n : Nat) (S1 S2 S3 : Value) : Prop := W.heap[g]? = some (.cells #[.int .i64 n, S1, S2, S3] 121 (0, 0))
theorem TB.cells {W : World} {g n : Nat} {S1 S2 S3 : Value} (h : TB W g n S1 S2 S3) : W.cell? ⟨g, 0, none⟩ = some (.int .i64 n) ∧ W.cell? ⟨g, 1, none⟩ = some S1 ∧ W.cell? ⟨g, 2, none⟩ = some S2 ∧ W.cell? ⟨g, 3, none⟩ = some S3 ∧ g < W.heap.size :=
 ⟨(blk_cell h 0).trans rfl, (blk_cell h 1).trans rfl, (blk_cell h 2).trans rfl, (blk_cell h 3).trans rfl, blk_lt h⟩
theorem TB.new (w : World) (n : Nat) (S1 S2 S3 : Value) : TB (w.alloc (.cells #[.int .i64 n, S1, S2, S3] 121)) w.heap.size n S1 S2 S3 := blk_new w _
theorem TB.below {W W' : World} {g n : Nat} {S1 S2 S3 : Value} (h : TB W g n S1 S2 S3) (b : Below W.heap.size W W') : TB W' g n S1 S2 S3 := (b.block _ (blk_lt h)).trans h
def placesP (t : TP) : List Int := rowB t.n fun x => decide (rd t.inn x = 1)
theorem placesP_mem {t : TP} {x : Int} : x ∈ placesP t ↔ isP t x = true := by
 unfold placesP isP
 rw [rowB_mem]
 simp
set_option maxRecDepth 100000 in
set_option maxHeartbeats 2000000 in
theorem TV.places {w : World} {t : TP} {S1 S2 S3 : Value} (h : TV w t S1 S2 S3) : Calls Tryz.prog 111 #[.agg #[.int .i64 t.n, S1, S2, S3]] w fun r w' => RowPost w (placesP t) r w' := by
 obtain ⟨p, h, rfl, rfl, rfl⟩ := h
 have hn := h.small
 obtain ⟨n, inn, l, lost⟩ := t
 obtain ⟨A1, k1, A2, k2, A3, k3⟩ := p
 have hin := h.e1
 have HC1 := Lib.hid h.r1
 simp only at *
 obtain ⟨S2, hS2⟩ : ∃ S2, Value.slice A2 l.length k2 = S2 := ⟨_, rfl⟩
 obtain ⟨S3, hS3⟩ : ∃ S3, Value.slice A3 lost.length k3 = S3 := ⟨_, rfl⟩
 rw [hS2, hS3, hin]
 clear hS2 hS3 h
 have HB := Lib.hid (TB.new w n (.slice A1 n k1) S2 S3)
 have HR0 : Hid (Below w.heap.size w (w.alloc (.cells #[.int .i64 n, .slice A1 n k1, S2, S3] 121))) := Lib.hid ((Below.refl _ _).alloc (Nat.le_refl _) _)
 obtain ⟨f, hf⟩ : ∃ f : Int → Bool, f = fun x => decide (rd inn x = 1) := ⟨_, rfl⟩
 have HF : Hid (∀ x : Int, f x = decide (rd inn x = 1)) := Lib.hid (fun x => by rw [hf])
 have hpl : placesP ⟨n, inn, l, lost⟩ = rowB n f := by unfold placesP; rw [hf]
 rw [hpl]
 clear hpl hf
 go_enter Tryz.func111, Tryz.ntmps111
 go_wp2_with fail
 generalize w.alloc (.cells #[.int .i64 n, .slice A1 n k1, S2, S3] 121) = W1 at *
 go_loopw [3, 4] (fun v3 v4 wr => ∃ i : Nat, v4 = .int .i64 i ∧ i ≤ n ∧ Hid (Kd.R (Kd.int .i64) 3 wr W1.heap.size (fun _ => True) v3 (rowB i f)) ∧ Hid (Below W1.heap.size W1 wr)) (fun _ v4 _ => n - (intOf v4).toNat)
 case atStart => exact ⟨0, rfl, by omega, Lib.hid (Kd.R_nil _ _ _ _ _), Lib.hid (Below.refl _ _)⟩
 case round =>
  obtain ⟨i, rfl, hi, HR, HG1⟩ := hrel
  have HB1 := Lib.hid (HB.out.below HG1.out)
  obtain ⟨c0, c1, c2, c3, l0⟩ := HB1.out.cells
  have hsz : W1.heap.size ≤ wr.heap.size := HG1.out.size
  by_cases hlt : i < n
  ·obtain ⟨ad, hA, hc⟩ := Kd.at_int (Kd.C_below HC1.out (HR0.out.trans (HG1.out.mono HR0.out.size))) (i : Int) (by omega) (by omega)
   subst hA
   have hc' : wr.cell? (ad.add i) = some (.int .i64 (rd inn i)) := hc
   have hi0 : (0 : Int) ≤ (i : Int) := Int.natCast_nonneg _
   have hi1 : (i : Int) < (n : Int) := by omega
   have hlen := rowB_len i f
   have hfi := HF.out (i : Int)
   clear hc
   generalize rd inn i = q at *
   by_cases hq : q = 1
   ·have e1 : (q == 1) = true := by simp [hq]
    have HN : Hid (rowB (i + 1) f = rowB i f ++ [(i : Int)]) := Lib.hid (rowB_yes (by rw [hfi]; simp [hq]))
    clear hq hfi
    go_wp2_with (at_builtin; refine Kd.R_append (Kd.int .i64) (w0 := W1) (W := wr) W1.heap.size rfl (.tmp 17) (.tmp 19) 28 3 (.int .i64 0) 8 rfl Tryz.underlying28 info3 rfl (by decide) (by omega) _ (rowB i f) (i : Int) [.int .i64 i] (fun _ => True) (fun _ => False) rfl rfl rfl (fun _ h => h.elim) (fun _ _ => trivial) HR.out HG1.out hsz (by omega) ?_; intro v1 w2 hR2 hB2 hg2 _; have HR2 := Lib.hid hR2; have HB2 := Lib.hid hB2; clear hR2 hB2 hg2)
    go_roundw
    case measure => simp [intOf]; omega
    case rel => exact ⟨i + 1, by go_num, by omega, Lib.hid (by rw [HN.out]; exact HR2.out), HB2⟩
   ·have e1 : (q == 1) = false := by simp [hq]
    have HN : Hid (rowB (i + 1) f = rowB i f) := Lib.hid (rowB_no (by rw [hfi]; simp [hq]))
    clear hq hfi
    go_wp2_with fail
    go_roundw
    case measure => simp [intOf]; omega
    case rel => exact ⟨i + 1, by go_num, by omega, Lib.hid (by rw [HN.out]; exact HR.out), HG1⟩
  ·have HIN : Hid (i = n) := Lib.hid (by omega)
   have hil : n ≤ i := by omega
   go_wp2_with fail
   go_ret
   rw [HIN.out] at HR
   exact RowPost.of ⟨_, rfl, Kd.R_lower HR.out HR0.out.size, HR0.out.trans (HG1.out.mono HR0.out.size)⟩
set_option maxRecDepth 100000 in
set_option maxHeartbeats 2000000 in
theorem TV.cost {w : World} {t : TP} {S1 S2 S3 : Value} (h : TV w t S1 S2 S3) (v : Int) : Calls Tryz.prog 112 #[.agg #[.int .i64 t.n, S1, S2, S3], .int .i64 v] w fun r w' => ∃ c, r = .returned (.int .i64 c) ∧ Below w.heap.size w w' := by
 have HIS : Hid (∀ W, Below w.heap.size w W → Calls Tryz.prog 114 #[.agg #[.int .i64 t.n, S1, S2, S3], .int .i64 v] W fun r w' => r = .returned (.bool (isP t v)) ∧ Below W.heap.size W w') := Lib.hid (fun W g => (h.below g).is v)
 have HIN : Hid (∀ W, Below w.heap.size w W → Calls Tryz.prog 82 #[.agg #[.int .i64 t.n, S1, S2, S3], .int .i64 v] W fun r w' => RowPost W (rowB t.n fun x => (wayP t.l x v).isSome) r w') := Lib.hid (fun W g => (h.below g).ins v)
 have HOU : Hid (∀ W, Below w.heap.size w W → Calls Tryz.prog 80 #[.agg #[.int .i64 t.n, S1, S2, S3], .int .i64 v] W fun r w' => RowPost W (rowB t.n fun x => (wayP t.l v x).isSome) r w') := Lib.hid (fun W g => (h.below g).outs v)
 have hla := rowB_len t.n (fun x => (wayP t.l x v).isSome)
 have hlb := rowB_len t.n (fun x => (wayP t.l v x).isSome)
 generalize (rowB t.n fun x => (wayP t.l x v).isSome) = la at *
 generalize (rowB t.n fun x => (wayP t.l v x).isSome) = lb at *
 obtain ⟨p, h, rfl, rfl, rfl⟩ := h
 have hn := h.small
 have HIP : Hid (isP t v = true → 0 ≤ v ∧ v < t.n) := Lib.hid (fun e => by unfold isP at e; simp at e; omega)
 obtain ⟨b, hb⟩ : ∃ b, isP t v = b := ⟨_, rfl⟩
 rw [hb] at HIP HIS
 have hlo := h.e3
 have HC3 := Lib.hid h.r3
 clear hb h
 obtain ⟨n, inn, l, lost⟩ := t
 obtain ⟨A1, k1, A2, k2, A3, k3⟩ := p
 simp only at *
 rw [hlo] at HIS HIN HOU ⊢
 generalize hS1 : Value.slice A1 inn.length k1 = S1 at *
 generalize hS2 : Value.slice A2 l.length k2 = S2 at *
 clear hS1 hS2
 have HB := Lib.hid (TB.new w n S1 S2 (.slice A3 n k3))
 have HR0 : Hid (Below w.heap.size w (w.alloc (.cells #[.int .i64 n, S1, S2, .slice A3 n k3] 121))) := Lib.hid ((Below.refl _ _).alloc (Nat.le_refl _) _)
 obtain ⟨c0, c1, c2, c3, l0⟩ := HB.out.cells
 go_enter Tryz.func112, Tryz.ntmps112
 go_wp2_with fail
 generalize w.alloc (.cells #[.int .i64 n, S1, S2, .slice A3 n k3] 121) = W1 at *
 refine (HIS.out W1 HR0.out).mono ?_
 rintro e W2 ⟨rfl, g⟩
 have HG2 := Lib.hid (HR0.out.trans (g.mono HR0.out.size))
 have HB2 := Lib.hid (HB.out.below g)
 clear c0 c1 c2 c3 l0 g
 obtain ⟨c0, c1, c2, c3, l0⟩ := HB2.out.cells
 cases b with
 | false =>
  go_wp2_with fail
  all_goals (try rw [Exit.noGoto_ret])
  all_goals go_ret
  all_goals exact ⟨_, rfl, HG2.out⟩
 | true =>
  obtain ⟨h0, h1⟩ := HIP.out (by trivial)
  obtain ⟨v, rfl⟩ := Int.eq_ofNat_of_zero_le h0
  go_wp2_with fail
  refine (HIN.out W2 HG2.out).mono ?_
  rintro e W3 ⟨Aa, ca, rfl, hca, hCa, g⟩
  have HG3 := Lib.hid (HG2.out.trans (g.mono HG2.out.size))
  have HB3 := Lib.hid (HB2.out.below g)
  have HCa := Lib.hid hCa
  clear c0 c1 c2 c3 l0 g hCa
  obtain ⟨c0, c1, c2, c3, l0⟩ := HB3.out.cells
  go_wp2_with fail
  refine (HOU.out W3 HG3.out).mono ?_
  rintro e W4 ⟨Ab, cb, rfl, hcb, hCb, g⟩
  have HG4 := Lib.hid (HG3.out.trans (g.mono HG3.out.size))
  have HB4 := Lib.hid (HB3.out.below g)
  have HCa4 := Lib.hid (Kd.C_below HCa.out g)
  have HCb := Lib.hid hCb
  clear c0 c1 c2 c3 l0 g hCb
  have HLA : Hid (∃ na, la.length = na) := Lib.hid ⟨_, rfl⟩
  obtain ⟨na, hna⟩ := HLA.out
  obtain ⟨nb, hnb⟩ : ∃ nb, lb.length = nb := ⟨_, rfl⟩
  rw [hna] at HCa4 hla hca
  rw [hnb] at HCb hlb hcb
  rw [hna, hnb]
  clear HLA hna hnb
  go_wp2_with fail
  go_loopw [7, 8] (fun v7 v8 wr => ∃ (c : Int) (i : Nat), v7 = .int .i64 c ∧ v8 = .int .i64 i ∧ i ≤ na ∧ Hid (Below W4.heap.size W4 wr)) (fun _ v8 _ => na - (intOf v8).toNat)
  case atStart => exact ⟨0, 0, rfl, rfl, by omega, Lib.hid (Below.refl _ _)⟩
  case round =>
   obtain ⟨c, i, rfl, rfl, hi, HG⟩ := hrel
   by_cases hlt : i < na
   ·have hi0 : (0 : Int) ≤ (i : Int) := Int.natCast_nonneg _
    have hi1 : (i : Int) < (na : Int) := by omega
    go_wp2_with fail
    go_loopw [7, 9] (fun v7 v9 wr => ∃ (c : Int) (j : Nat), v7 = .int .i64 c ∧ v9 = .int .i64 j ∧ j ≤ nb ∧ Hid (Below W4.heap.size W4 wr)) (fun _ v9 _ => nb - (intOf v9).toNat)
    case atStart => exact ⟨c, 0, rfl, rfl, by omega, HG⟩
    case round =>
     obtain ⟨c, j, rfl, rfl, hj, HG'⟩ := hrel
     by_cases hjt : j < nb
     ·have hj0 : (0 : Int) ≤ (j : Int) := Int.natCast_nonneg _
      have hj1 : (j : Int) < (nb : Int) := by omega
      obtain ⟨aa, hAa, ha⟩ := Kd.at_int (Kd.C_below HCa4.out HG'.out) (i : Int) (by omega) (by omega)
      obtain ⟨ab, hAb, hb⟩ := Kd.at_int (Kd.C_below HCb.out HG'.out) (j : Int) (by omega) (by omega)
      subst hAa hAb
      have ha' : wr.cell? (aa.add i) = some (.int .i64 (rd la i)) := ha
      have hb' : wr.cell? (ab.add j) = some (.int .i64 (rd lb j)) := hb
      clear ha hb
      generalize rd la i = qa at *
      generalize rd lb j = qb at *
      obtain ⟨B, hB⟩ : ∃ B, (qa == qb) = B := ⟨_, rfl⟩
      have hB' : (qa != qb) = !B := by rw [← hB]; rfl
      go_wp2_with fail
      go_region
      cases B with
      | false =>
       go_wp2_with fail
       go_roundw
       case measure => simp [intOf]; omega
       case rel => exact ⟨_, j + 1, rfl, by go_num, by omega, Lib.hid HG'.out.drew⟩
      | true =>
       go_wp2_with fail
       go_roundw
       case measure => simp [intOf]; omega
       case rel => exact ⟨_, j + 1, rfl, by go_num, by omega, Lib.hid HG'.out.drew⟩
     ·have hil : nb ≤ j := by omega
      go_wp2_with fail
      go_roundw
      case measure => simp [intOf]; omega
      case rel => exact ⟨_, i + 1, rfl, by go_num, by omega, HG'⟩
   ·have hil : na ≤ i := by omega
    have HB5 := Lib.hid (HB4.out.below HG.out)
    obtain ⟨c0, c1, c2, c3, l0⟩ := HB5.out.cells
    have HG5 := Lib.hid (HG4.out.trans (HG.out.mono HG4.out.size))
    obtain ⟨ad, hA, hc⟩ := Kd.at_int (Kd.C_below HC3.out HG5.out) (v : Int) (by omega) (by omega)
    subst hA
    have hc' : wr.cell? (ad.add v) = some (.int .i64 (rd lost v)) := hc
    clear hc
    generalize rd lost v = q at *
    go_wp2_with fail
    all_goals go_ret
    all_goals exact ⟨_, rfl, HG5.out⟩
def NextPost (w : World) (t : TP) (r : Ending) (w' : World) : Prop := ∃ b, r = .returned (.int .i64 b) ∧ (isP t b = true ∨ b = -1 ∧ placesP t = []) ∧ Below w.heap.size w w'
set_option maxRecDepth 100000 in
set_option maxHeartbeats 2000000 in
theorem TV.next {w : World} {t : TP} {S1 S2 S3 : Value} (h : TV w t S1 S2 S3) : Calls Tryz.prog 77 #[.agg #[.int .i64 t.n, S1, S2, S3]] w fun r w' => NextPost w t r w' := by
 have HPL : Hid (∀ W, Below w.heap.size w W → Calls Tryz.prog 111 #[.agg #[.int .i64 t.n, S1, S2, S3]] W fun r w' => RowPost W (placesP t) r w') := Lib.hid (fun W g => (h.below g).places)
 have HCO : Hid (∀ W, Below w.heap.size w W → ∀ v, Calls Tryz.prog 112 #[.agg #[.int .i64 t.n, S1, S2, S3], .int .i64 v] W fun r w' => ∃ c, r = .returned (.int .i64 c) ∧ Below W.heap.size W w') := Lib.hid (fun W g v => (h.below g).cost v)
 have hll : (placesP t).length ≤ t.n := rowB_len _ _
 have hn := h.small
 have HME : Hid (∀ i : Nat, i < (placesP t).length → isP t (rd (placesP t) (i : Int)) = true) := Lib.hid (fun i hi => placesP_mem.1 (by rw [rd_get hi]; exact List.getElem_mem _))
 clear h
 obtain ⟨pl, hpl⟩ : ∃ pl, placesP t = pl := ⟨_, rfl⟩
 obtain ⟨n, hnn⟩ : ∃ n, t.n = n := ⟨_, rfl⟩
 have HQ : Hid (∀ r w', (∃ b, r = .returned (.int .i64 b) ∧ (isP t b = true ∨ b = -1 ∧ pl = []) ∧ Below w.heap.size w w') → NextPost w t r w') := Lib.hid (by rw [← hpl]; exact fun r w' h => h)
 rw [hpl] at HME HPL hll
 rw [hnn] at HPL HCO hll hn ⊢
 clear hpl hnn
 have HB := Lib.hid (TB.new w n S1 S2 S3)
 have HR0 : Hid (Below w.heap.size w (w.alloc (.cells #[.int .i64 n, S1, S2, S3] 121))) := Lib.hid ((Below.refl _ _).alloc (Nat.le_refl _) _)
 obtain ⟨c0, c1, c2, c3, l0⟩ := HB.out.cells
 go_enter Tryz.func77, Tryz.ntmps77
 go_wp2_with fail
 generalize w.alloc (.cells #[.int .i64 n, S1, S2, S3] 121) = W1 at *
 refine (HPL.out W1 HR0.out).mono ?_
 rintro e W2 ⟨A, c, rfl, hc, hC, g⟩
 have HG2 := Lib.hid (HR0.out.trans (g.mono HR0.out.size))
 have HB2 := Lib.hid (HB.out.below g)
 have HC := Lib.hid hC
 clear c0 c1 c2 c3 l0 g hC
 have HLL : Hid (∃ m, pl.length = m) := Lib.hid ⟨_, rfl⟩
 obtain ⟨m, hm⟩ := HLL.out
 have HNIL : Hid (m = 0 → pl = []) := Lib.hid (fun e => List.length_eq_zero_iff.1 (by omega))
 rw [hm] at HC hll hc HME ⊢
 clear HLL hm
 go_wp2_with fail
 go_loopw [4, 5] (fun v4 v5 wr => ∃ (b : Int) (i : Nat), v4 = .int .i64 b ∧ v5 = .int .i64 i ∧ i ≤ m ∧ Hid (b = -1 ∧ i = 0 ∨ isP t b = true ∧ 0 ≤ b) ∧ Hid (Below W2.heap.size W2 wr)) (fun _ v5 _ => m - (intOf v5).toNat)
 case atStart => exact ⟨-1, 0, rfl, rfl, by omega, Lib.hid (.inl ⟨rfl, rfl⟩), Lib.hid (Below.refl _ _)⟩
 case round =>
  obtain ⟨b, i, rfl, rfl, hi, HBI, HG⟩ := hrel
  by_cases hlt : i < m
  ·have hi0 : (0 : Int) ≤ (i : Int) := Int.natCast_nonneg _
   have hi1 : (i : Int) < (m : Int) := by omega
   obtain ⟨ad, hA, hc'⟩ := Kd.at_int (Kd.C_below HC.out HG.out) (i : Int) (by omega) (by omega)
   subst hA
   have HQP := HME.out i hlt
   have HCC : Hid (∀ W, Below W2.heap.size W2 W → W.cell? ⟨w.heap.size, 0, none⟩ = some (.int .i64 n) ∧ W.cell? ⟨w.heap.size, 1, none⟩ = some S1 ∧ W.cell? ⟨w.heap.size, 2, none⟩ = some S2 ∧ W.cell? ⟨w.heap.size, 3, none⟩ = some S3 ∧ W.cell? (ad.add i) = some (.int .i64 (rd pl i))) := Lib.hid (fun W g => by
    obtain ⟨c0, c1, c2, c3, _⟩ := (HB2.out.below g).cells
    obtain ⟨ad', hA', hc''⟩ := Kd.at_int (Kd.C_below HC.out g) (i : Int) (by omega) (by omega)
    cases hA'
    exact ⟨c0, c1, c2, c3, hc''⟩)
   clear hc'
   generalize rd pl i = q at *
   have HQ0 : Hid (0 ≤ q) := Lib.hid (by unfold isP at HQP; simp at HQP; exact HQP.1)
   obtain ⟨c0, c1, c2, c3, cq⟩ := HCC.out wr HG.out
   have hsz : W2.heap.size ≤ wr.heap.size := HG.out.size
   rcases HBI.out with ⟨hb, hz⟩ | ⟨hb, hb0⟩
   ·subst hb
    clear hz
    have e1 : decide ((-1 : Int) < 0) = true := rfl
    go_upto_region 6 with fail
    refine start_ (n := 14) (S := fun w' => True) (ds := []) (bA_ 14 0) (by kernel_rfl) rfl rfl trivial (fun hHeld => ?_)
    refine p2_ 0 14 (bA_ 14 1) ?_
    refine p2_ 1 15 (bA_ 14 3) ?_
    refine p2_ 2 16 (bA_ 14 7) ?_
    refine pu2_ 3 17 (bA_ 14 15) ?_
    refine pu2_ 4 18 (bA_ 14 31) ?_
    refine pu2_ 5 19 (bA_ 14 63) ?_
    refine pu2_ 6 20 (bA_ 14 127) ?_
    refine pu2_ 7 21 (bA_ 14 255) ?_
    refine pu2_ 8 22 (bA_ 14 511) ?_
    refine pu2_ 9 23 (bA_ 14 1023) ?_
    refine pu2_ 10 24 (bA_ 14 2047) ?_
    refine pu2_ 11 25 (bA_ 14 4095) ?_
    refine pu2_ 12 26 (bA_ 14 8191) ?_
    refine p2_ 13 27 (bA_ 14 16383) ?_
    refine done_ (by kernel_rfl) ?_
    go_wp2_with fail
    have cq' : wr.drew.cell? (ad.add i) = some (.int .i64 q) := cq
    go_wp2_with fail
    go_roundw
    case measure => simp [intOf]; omega
    case rel => exact ⟨q, i + 1, rfl, by go_num, by omega, Lib.hid (.inr ⟨HQP, HQ0.out⟩), Lib.hid HG.out.drew⟩
   ·have e1 : decide (b < 0) = false := decide_eq_false (by omega)
    go_upto_region 6 with fail
    refine start_ (n := 14) (S := fun w' => w'.cell? ⟨w.heap.size, 0, none⟩ = some (.int .i64 n) ∧ w'.cell? ⟨w.heap.size, 1, none⟩ = some S1 ∧ w'.cell? ⟨w.heap.size, 2, none⟩ = some S2 ∧ w'.cell? ⟨w.heap.size, 3, none⟩ = some S3 ∧ w'.cell? (ad.add i) = some (.int .i64 q)) (ds := []) (bA_ 14 0) (by kernel_rfl) rfl rfl ⟨c0, c1, c2, c3, cq⟩ (fun hHeld => ?_)
    refine p2_ 0 14 (bA_ 14 1) ?_
    refine p2_ 1 15 (bA_ 14 3) ?_
    refine p2_ 2 16 (bA_ 14 7) ?_
    refine p2_ 4 18 (bA_ 14 23) ?_
    refine p2_ 5 19 (bA_ 14 55) ?_
    refine p2_ 6 20 (bA_ 14 119) ?_
    refine p2_ 10 24 (bA_ 14 1143) ?_
    refine t2_ 3 17 (bA_ 14 1151) hHeld ?_ (hy := by rintro w' ⟨s0, s1, s2, s3, s4⟩; go_simp; with_reducible rfl)
    refine t2_ 7 21 (bA_ 14 1279) hHeld ?_ (hy := by rintro w' ⟨s0, s1, s2, s3, s4⟩; go_simp; with_reducible rfl)
    refine t2_ 9 23 (bA_ 14 1791) hHeld ?_ (hy := by rintro w' ⟨s0, s1, s2, s3, s4⟩; go_simp; with_reducible rfl)
    refine o2_ 8 22 (bA_ 14 2047) (fun K hK => ?_)
    refine g2_ Tryz.func112 #[.agg #[.int .i64 n, S1, S2, S3], .int .i64 q] ?_
    with_reducible refine (HCO.out _ (HG2.out.trans (HG.out.drew.mono HG2.out.size)) q).mono ?_
    rintro e w3 ⟨k1, rfl, g3⟩
    refine ⟨_, rfl, ?_⟩
    have HG3 : Hid (Below W2.heap.size W2 w3) := Lib.hid (HG.out.drew.trans (g3.mono hsz))
    have hs := HCC.out w3 HG3.out
    clear g3
    refine hK.out _ _ ⟨hs.1, hs.2.1, hs.2.2.1, hs.2.2.2.1, hs.2.2.2.2⟩ (fun hHeld => ?_)
    clear hK K
    refine n2_ 22 ?_
    refine o2_ 11 25 (bA_ 14 4095) (fun K hK => ?_)
    refine g2_ Tryz.func112 #[.agg #[.int .i64 n, S1, S2, S3], .int .i64 b] ?_
    with_reducible refine (HCO.out _ (HG2.out.trans (HG3.out.mono HG2.out.size)) b).mono ?_
    rintro e w4 ⟨k2, rfl, g4⟩
    refine ⟨_, rfl, ?_⟩
    have HG4 : Hid (Below W2.heap.size W2 w4) := Lib.hid (HG3.out.trans (g4.mono HG3.out.size))
    have hs4 := HCC.out w4 HG4.out
    clear g4
    refine hK.out _ _ ⟨hs4.1, hs4.2.1, hs4.2.2.1, hs4.2.2.2.1, hs4.2.2.2.2⟩ (fun hHeld => ?_)
    clear hK K
    refine n2_ 25 ?_
    refine p2_ 12 26 (bA_ 14 8191) ?_
    refine p2_ 13 27 (bA_ 14 16383) ?_
    refine done_ (by kernel_rfl) ?_
    have HG5 : Hid (Below W2.heap.size W2 w4) := HG4
    have cq' := (HCC.out w4 HG5.out).2.2.2.2
    have HQP := Lib.hid HQP
    clear hs hs4 c0 c1 c2 c3 cq
    generalize decide (k1 < k2) = B at *
    cases B with
    | false =>
     go_wp2_with fail
     go_roundw
     case measure => simp [intOf]; omega
     case rel => exact ⟨b, i + 1, rfl, by go_num, by omega, Lib.hid (.inr ⟨hb, hb0⟩), HG5⟩
    | true =>
     go_wp2_with fail
     go_roundw
     case measure => simp [intOf]; omega
     case rel => exact ⟨q, i + 1, rfl, by go_num, by omega, Lib.hid (.inr ⟨HQP.out, HQ0.out⟩), HG5⟩
  ·have hil : m ≤ i := by omega
   have HG5 := Lib.hid (HG2.out.trans (HG.out.mono HG2.out.size))
   have HF : Hid (isP t b = true ∨ b = -1 ∧ pl = []) := Lib.hid (by
    rcases HBI.out with ⟨h1, h2⟩ | h
    ·exact .inr ⟨h1, HNIL.out (by omega)⟩
    ·exact .inl h.1)
   go_wp2_with fail
   all_goals go_ret
   all_goals exact HQ.out _ _ ⟨_, rfl, HF.out, HG5.out⟩
def dropW (l : List S156) (u v : Int) : List S156 := l.filter fun y => y.f0 != u || y.f1 != v
def okO (o : Option S69) (x : Int) : Bool := match o with
 | none => true
 | some y => !decide (y.f0 ≤ x)
def putT (t : TP) (u v x mid : Int) : TP := if (isP t u && (isP t v && (!(u == v) && (!decide (x < 0) && (!decide (mid < 0) && okO (wayP t.l u v) x))))) = true then { t with l := dropW t.l u v ++ [⟨u, v, ⟨x, mid, -1⟩⟩] } else t
structure TR (W : World) (base : Nat) (ok : Nat → Prop) (t : TP) (S1 S2 S3 : Value) : Prop where
 r1 : Kd.R (Kd.int .i64) 3 W base ok S1 t.inn
 r2 : Kd.R k156 156 W base (fun _ => True) S2 t.l
 r3 : Kd.R (Kd.int .i64) 3 W base ok S3 t.lost
 e1 : t.inn.length = t.n
 e3 : t.lost.length = t.n
 small : t.n ≤ 1000
 few : t.l.length ≤ 1000000
theorem TR.tv {W : World} {base : Nat} {ok : Nat → Prop} {t : TP} {S1 S2 S3 : Value} (h : TR W base ok t S1 S2 S3) : TV W t S1 S2 S3 := by
 obtain ⟨A1, c1, e1, k1, C1⟩ := Kd.R_reads h.r1
 obtain ⟨A2, c2, e2, k2, C2⟩ := Kd.R_reads h.r2
 obtain ⟨A3, c3, e3, k3, C3⟩ := Kd.R_reads h.r3
 exact ⟨⟨A1, c1, A2, c2, A3, c3⟩, ⟨C1, C2, C3, k1, k2, k3, h.e1, h.e3, h.small, h.few⟩, e1, e2, e3⟩
theorem TR.below {W W' : World} {base : Nat} {ok : Nat → Prop} {t : TP} {S1 S2 S3 : Value} (h : TR W base ok t S1 S2 S3) (b : Below W.heap.size W W') : TR W' base ok t S1 S2 S3 :=
 ⟨Kd.R_below h.r1 b, Kd.R_below h.r2 b, Kd.R_below h.r3 b, h.e1, h.e3, h.small, h.few⟩
def TPost (w : World) (t0 t : TP) (S1 S2 S3 : Value) (r : Ending) (w' : World) : Prop := ∃ (S2' : Value) (b : Bool), r = .returned (.tuple #[.agg #[.int .i64 t.n, S1, S2', S3], .bool b]) ∧ (S2' = S2 ∧ t = t0 ∨ Kd.R k156 156 w' w.heap.size (fun _ => True) S2' t.l) ∧ TV w' t S1 S2' S3 ∧ Below w.heap.size w w'
theorem TPost.mk {w : World} {t0 t : TP} {S1 S2 S3 : Value} {r : Ending} {w' : World} (S2' : Value) (b : Bool) (h1 : r = .returned (.tuple #[.agg #[.int .i64 t.n, S1, S2', S3], .bool b])) (h0 : S2' = S2 ∧ t = t0 ∨ Kd.R k156 156 w' w.heap.size (fun _ => True) S2' t.l) (h2 : TV w' t S1 S2' S3) (h3 : Below w.heap.size w w') : TPost w t0 t S1 S2 S3 r w' := ⟨S2', b, h1, h0, h2, h3⟩
theorem rd132_take {l : List S156} {i : Nat} (h : i < l.length) (f : S156 → Bool) : (l.take (i + 1)).filter f = (l.take i).filter f ++ (if f (rd_T156 l (i : Int)) = true then [rd_T156 l (i : Int)] else []) := by
 have e : rd_T156 l (i : Int) = l[i] := by simp [rd_T156, List.getD, h]
 rw [List.take_succ_eq_append_getElem h, List.filter_append, e]
 congr 1
 by_cases hf : f l[i] = true
 ·simp [hf]
 ·simp [hf]
def ZB (W : World) (g : Nat) : Prop := W.heap[g]? = some (.cells #[.int .i64 0, .slice none 0 0, .slice none 0 0, .slice none 0 0] 121 (0, 0))
theorem ZB.below {W W' : World} {g : Nat} (h : ZB W g) (b : Below W.heap.size W W') : ZB W' g := (b.block _ (blk_lt h)).trans h
theorem ZB.cells {W : World} {g : Nat} (h : ZB W g) : W.cell? ⟨g, 0, none⟩ = some (.int .i64 0) ∧ W.cell? ⟨g, 1, none⟩ = some (.slice none 0 0) ∧ W.cell? ⟨g, 2, none⟩ = some (.slice none 0 0) ∧ W.cell? ⟨g, 3, none⟩ = some (.slice none 0 0) ∧ g < W.heap.size ∧ ∀ j, W.frozen? ⟨g, j, none⟩ = false :=
 ⟨(blk_cell h 0).trans rfl, (blk_cell h 1).trans rfl, (blk_cell h 2).trans rfl, (blk_cell h 3).trans rfl, blk_lt h, fun j => blk_frozen h j⟩
def put4 (W : World) (g : Nat) (a b c d : Value) : World := (((W.setCell ⟨g, 0, none⟩ a).setCell ⟨g, 1, none⟩ b).setCell ⟨g, 2, none⟩ c).setCell ⟨g, 3, none⟩ d
theorem ZB.put {W : World} {g n : Nat} {S1 S2 S3 : Value} (h : ZB W g) : TB (put4 W g (.int .i64 n) S1 S2 S3) g n S1 S2 S3 := by
 have h0 := blk_put h 0 (.int .i64 n) (cs' := #[.int .i64 n, .slice none 0 0, .slice none 0 0, .slice none 0 0]) rfl
 have h1 := blk_put h0 1 S1 (cs' := #[.int .i64 n, S1, .slice none 0 0, .slice none 0 0]) rfl
 have h2 := blk_put h1 2 S2 (cs' := #[.int .i64 n, S1, S2, .slice none 0 0]) rfl
 exact blk_put h2 3 S3 (cs' := #[.int .i64 n, S1, S2, S3]) rfl
theorem put4_below {b : Nat} {w W : World} {g : Nat} {x y z u : Value} (h : Below b w W) (hg : b ≤ g) : Below b w (put4 W g x y z u) :=
 (((h.setCell (p := ⟨g, 0, none⟩) hg _).setCell (p := ⟨g, 1, none⟩) hg _).setCell (p := ⟨g, 2, none⟩) hg _).setCell (p := ⟨g, 3, none⟩) hg _
theorem R_put4 {W : World} {g base : Nat} {ok : Nat → Prop} {v : Value} {zs : List S156} (hR : Kd.R k156 156 W base ok v zs) (h : ZB W g) {x y z u : Value} : Kd.R k156 156 (put4 W g x y z u) base ok v zs := by
 have h0 := blk_put h 0 x rfl
 have h1 := blk_put h0 1 y rfl
 have h2 := blk_put h1 2 z rfl
 exact Kd.R_set (Kd.R_set (Kd.R_set (Kd.R_set hR h (by decide) 0 x) h0 (by decide) 1 y) h1 (by decide) 2 z) h2 (by decide) 3 u
theorem TV.relaid {w W : World} {t tq : TP} {A1 A' A3 : Option Addr} {l1 k1 m k' l3 k3 base : Nat} {ok : Nat → Prop} {zs : List S156} (hq : { t with l := zs } = tq) (hC : Kd.C (Kd.int .i64) w A1 l1 t.inn ∧ Kd.C (Kd.int .i64) w A3 l3 t.lost ∧ t.inn.length = t.n ∧ t.lost.length = t.n ∧ l1 = t.n ∧ l3 = t.n ∧ l1 ≤ k1 ∧ l3 ≤ k3) (hs : t.n ≤ 1000)
  (hm : zs.length = m) (hz : m ≤ 1000000) (hG : Below w.heap.size w W) (hR : Kd.R k156 156 W base ok (.slice A' m k') zs) : TV W tq (.slice A1 l1 k1) (.slice A' m k') (.slice A3 l3 k3) := by
 obtain ⟨h1, h3, h4, h5, h6, h7, h8, h9⟩ := hC
 subst hq
 obtain ⟨g1, g2, g3⟩ := Kd.R_reads' hR
 refine ⟨⟨A1, k1, A', k', A3, k3⟩, ⟨?_, ?_, ?_, ?_, ?_, ?_, h4, h5, hs, ?_⟩, ?_, ?_, ?_⟩
 ·have := Kd.C_below h1 hG; rw [h6, ← h4] at this; exact this
 ·exact g3
 ·have := Kd.C_below h3 hG; rw [h7, ← h5] at this; exact this
 ·simp only; omega
 ·simp only; omega
 ·simp only; omega
 ·simp only; omega
 ·simp only; rw [h6, h4]
 ·simp only; rw [hm]
 ·simp only; rw [h7, h5]
set_option maxRecDepth 100000 in
set_option maxHeartbeats 4000000 in
theorem TV.put {w : World} {t : TP} {S1 S2 S3 : Value} (h : TV w t S1 S2 S3) (hf : t.l.length < 1000000) (u v x mid : Int) : Calls Tryz.prog 79 #[.agg #[.int .i64 t.n, S1, S2, S3], .int .i64 u, .int .i64 v, .int .i64 x, .int .i64 mid] w fun r w' => TPost w t (putT t u v x mid) S1 S2 S3 r w' := by
 have HWY : Hid (∀ W, Below w.heap.size w W → Calls Tryz.prog 81 #[.agg #[.int .i64 t.n, S1, S2, S3], .int .i64 u, .int .i64 v] W fun r w' => WPost W (wayP t.l u v) r w') := Lib.hid (fun W g => (h.below g).way u v)
 have HIU : Hid (∀ W, Below w.heap.size w W → Calls Tryz.prog 114 #[.agg #[.int .i64 t.n, S1, S2, S3], .int .i64 u] W fun r w' => r = .returned (.bool (isP t u)) ∧ Below W.heap.size W w') := Lib.hid (fun W g => (h.below g).is u)
 have HIV : Hid (∀ W, Below w.heap.size w W → Calls Tryz.prog 114 #[.agg #[.int .i64 t.n, S1, S2, S3], .int .i64 v] W fun r w' => r = .returned (.bool (isP t v)) ∧ Below W.heap.size W w') := Lib.hid (fun W g => (h.below g).is v)
 have HTV := Lib.hid h
 have HPT : Hid (∀ B, (isP t u && (isP t v && (!(u == v) && (!decide (x < 0) && (!decide (mid < 0) && okO (wayP t.l u v) x))))) = B → (if B = true then { t with l := dropW t.l u v ++ [⟨u, v, ⟨x, mid, -1⟩⟩] } else t) = putT t u v x mid) := Lib.hid (fun B hB => by rw [← hB]; rfl)
 generalize putT t u v x mid = tq at *
 generalize isP t u = bu at *
 generalize isP t v = bv at *
 generalize wayP t.l u v = o at *
 obtain ⟨A1, l1, k1, A2, len, k2, A3, l3, k3, hS1, hS2, hS3, hlen, hk2, hC2, hin, hlo, e1, e3, hk1, hk3, hC1, hC3⟩ := h.forms
 have HP := Lib.hid h
 have HC2 := Lib.hid hC2
 have HCC := Lib.hid (And.intro hC1 (And.intro hC3 (And.intro hin (And.intro hlo (And.intro e1 (And.intro e3 (And.intro hk1 hk3)))))))
 clear hin hlo e1 e3 hk1 hk3 hC1 hC3
 obtain ⟨n, hn⟩ : ∃ n, t.n = n := ⟨_, rfl⟩
 have HN := Lib.hid hn
 have HL := Lib.hid hlen
 rw [hn] at HWY HIU HIV ⊢
 subst hS1 hS2 hS3
 rw [← hlen] at hf
 clear hn hlen hC2 h
 have HB := Lib.hid (TB.new w n (.slice A1 l1 k1) (.slice A2 len k2) (.slice A3 l3 k3))
 have HBZ : Hid (TB ((w.alloc (.cells #[.int .i64 n, (.slice A1 l1 k1), (.slice A2 len k2), (.slice A3 l3 k3)] 121)).alloc (.cells #[.int .i64 0, .slice none 0 0, .slice none 0 0, .slice none 0 0] 121)) w.heap.size n (.slice A1 l1 k1) (.slice A2 len k2) (.slice A3 l3 k3)) := Lib.hid (blk_alloc HB.out _)
 have HZ : Hid (ZB ((w.alloc (.cells #[.int .i64 n, (.slice A1 l1 k1), (.slice A2 len k2), (.slice A3 l3 k3)] 121)).alloc (.cells #[.int .i64 0, .slice none 0 0, .slice none 0 0, .slice none 0 0] 121)) (w.heap.size + 1)) := Lib.hid (by have := blk_new (w.alloc (.cells #[.int .i64 n, (.slice A1 l1 k1), (.slice A2 len k2), (.slice A3 l3 k3)] 121)) (.cells #[.int .i64 0, .slice none 0 0, .slice none 0 0, .slice none 0 0] 121); rw [World.size_alloc] at this; exact this)
 have HG : Hid (Below w.heap.size w ((w.alloc (.cells #[.int .i64 n, (.slice A1 l1 k1), (.slice A2 len k2), (.slice A3 l3 k3)] 121)).alloc (.cells #[.int .i64 0, .slice none 0 0, .slice none 0 0, .slice none 0 0] 121))) := Lib.hid (((Below.refl _ _).alloc (Nat.le_refl _) _).alloc (by simp) _)
 obtain ⟨c0, c1, c2, c3, l0⟩ := HBZ.out.cells
 clear HB
 obtain ⟨oV, hoV⟩ : ∃ oV : Int, (match o with | none => 0 | some y => y.f0) = oV := ⟨_, rfl⟩
 obtain ⟨oB, hoB⟩ : ∃ oB : Bool, o.isSome = oB := ⟨_, rfl⟩
 have HOO : Hid (∃ y1 y2 : Int, wayV o = .agg #[.int .i64 oV, .int .i64 y1, .int .i64 y2]) := Lib.hid (by
  cases o with
  | none => exact ⟨0, 0, by rw [← hoV]; rfl⟩
  | some y => exact ⟨y.f1, y.f2, by rw [← hoV]; rfl⟩)
 have HOK : Hid (okO o x = !(oB && decide (oV ≤ x))) := Lib.hid (by
  rw [← hoB, ← hoV]
  cases o <;> simp [okO])
 have hwp : ∀ W r w', WPost W o r w' → r = .returned (.tuple #[wayV o, .bool oB]) ∧ Below W.heap.size W w' := fun W r w' hh => by rw [← hoB]; exact hh
 have HWQ := Lib.hid hwp
 obtain ⟨y1, y2, hy⟩ := HOO.out
 have HWX : Hid (∀ W, Below w.heap.size w W → Calls Tryz.prog 81 #[.agg #[.int .i64 n, (.slice A1 l1 k1), (.slice A2 len k2), (.slice A3 l3 k3)], .int .i64 u, .int .i64 v] W fun r w' => r = .returned (.tuple #[.agg #[.int .i64 oV, .int .i64 y1, .int .i64 y2], .bool oB]) ∧ Below W.heap.size W w') := Lib.hid (fun W g => (HWY.out W g).mono (fun r w' hh => by rw [← hy]; exact HWQ.out W r w' hh))
 have HPT2 : Hid (∀ B, (bu && (bv && (!(u == v) && (!decide (x < 0) && (!decide (mid < 0) && !(oB && decide (oV ≤ x))))))) = B → (if B = true then { t with l := dropW t.l u v ++ [⟨u, v, ⟨x, mid, -1⟩⟩] } else t) = tq) := Lib.hid (by rw [← HOK.out]; exact HPT.out)
 clear HWY hwp HWQ HOO HOK hy hoV hoB HPT o
 go_enter Tryz.func79, Tryz.ntmps79
 go_wp2_with fail
 generalize (w.alloc (.cells #[.int .i64 n, (.slice A1 l1 k1), (.slice A2 len k2), (.slice A3 l3 k3)] 121)).alloc (.cells #[.int .i64 0, .slice none 0 0, .slice none 0 0, .slice none 0 0] 121) = W1 at *
 refine (HWX.out W1 HG.out).mono ?_
 rintro e W2 ⟨rfl, g⟩
 have HG2 := Lib.hid (HG.out.trans (g.mono HG.out.size))
 have HB2 := Lib.hid (HBZ.out.below g)
 have HZ2 := Lib.hid (HZ.out.below g)
 clear c0 c1 c2 c3 l0 g
 obtain ⟨c0, c1, c2, c3, l0⟩ := HB2.out.cells
 obtain ⟨B, hB⟩ : ∃ B, (bu && (bv && (!(u == v) && (!decide (x < 0) && (!decide (mid < 0) && !(oB && decide (oV ≤ x))))))) = B := ⟨_, rfl⟩
 have HTQ := Lib.hid (HPT2.out B hB)
 clear HPT2
 go_upto_region 2 with fail
 have HG3 : Hid (Below w.heap.size w (W2.alloc (.cells #[.int .i64 oV, .int .i64 y1, .int .i64 y2] 69))) := Lib.hid (HG2.out.alloc HG2.out.size _)
 have HB3 : Hid (TB (W2.alloc (.cells #[.int .i64 oV, .int .i64 y1, .int .i64 y2] 69)) w.heap.size n (.slice A1 l1 k1) (.slice A2 len k2) (.slice A3 l3 k3)) := Lib.hid (blk_alloc HB2.out _)
 have HZ3 : Hid (ZB (W2.alloc (.cells #[.int .i64 oV, .int .i64 y1, .int .i64 y2] 69)) (w.heap.size + 1)) := Lib.hid (blk_alloc HZ2.out _)
 have HO3 : Hid ((W2.alloc (.cells #[.int .i64 oV, .int .i64 y1, .int .i64 y2] 69)).heap[W2.heap.size]? = some (.cells #[.int .i64 oV, .int .i64 y1, .int .i64 y2] 69 (0, 0))) := Lib.hid (blk_new W2 _)
 clear c0 c1 c2 c3 l0 HB2 HZ2 HG2
 generalize W2.alloc (.cells #[.int .i64 oV, .int .i64 y1, .int .i64 y2] 69) = W3 at *
 generalize W2.heap.size = go at *
 go_cut [54] from 23 to 54 (fun v54 wx => ∃ bq, v54 = .bool bq ∧ Hid (bq = !B) ∧ Hid (Below w.heap.size w wx) ∧ Hid (TB wx w.heap.size n (.slice A1 l1 k1) (.slice A2 len k2) (.slice A3 l3 k3)) ∧ Hid (ZB wx (w.heap.size + 1)))
 case first =>
  obtain ⟨c0, c1, c2, c3, l0⟩ := HB3.out.cells
  have HBF : Hid (∀ b1 b2 b3 b4 b5 b6, bu = b1 → bv = b2 → (u == v) = b3 → decide (x < 0) = b4 → decide (mid < 0) = b5 → (oB && decide (oV ≤ x)) = b6 → B = (b1 && (b2 && (!b3 && (!b4 && (!b5 && !b6)))))) := Lib.hid (fun b1 b2 b3 b4 b5 b6 h1 h2 h3 h4 h5 h6 => by rw [← hB, h1, h2, h3, h4, h5, h6])
  clear hB
  go_wp2_with fail
  refine (HIU.out W3 HG3.out).mono ?_
  rintro e W4 ⟨rfl, g⟩
  have HG4 := Lib.hid (HG3.out.trans (g.mono HG3.out.size))
  have HB4 := Lib.hid (HB3.out.below g)
  have HZ4 := Lib.hid (HZ3.out.below g)
  have HO4 := Lib.hid ((g.block _ (blk_lt HO3.out)).trans HO3.out)
  clear c0 c1 c2 c3 l0 g
  obtain ⟨c0, c1, c2, c3, l0⟩ := HB4.out.cells
  cases bu with
  | false =>
   have HV : Hid (B = false) := Lib.hid (HBF.out _ _ _ _ _ _ rfl rfl rfl rfl rfl rfl)
   clear HBF
   go_wp2_with fail
   all_goals go_meet
   all_goals exact ⟨_, rfl, Lib.hid (by rw [HV.out]; rfl), HG4, HB4, HZ4⟩
  | true =>
   go_wp2_with fail
   refine (HIV.out W4 HG4.out).mono ?_
   rintro e W5 ⟨rfl, g⟩
   have HG5 := Lib.hid (HG4.out.trans (g.mono HG4.out.size))
   have HB5 := Lib.hid (HB4.out.below g)
   have HZ5 := Lib.hid (HZ4.out.below g)
   have HO5 := Lib.hid ((g.block _ (blk_lt HO4.out)).trans HO4.out)
   clear c0 c1 c2 c3 l0 g
   have d0 : W5.cell? ⟨go, 0, none⟩ = some (.int .i64 oV) := (blk_cell HO5.out 0).trans rfl
   have dl := blk_lt HO5.out
   cases bv with
   | false =>
    have HV : Hid (B = false) := Lib.hid (HBF.out _ _ _ _ _ _ rfl rfl rfl rfl rfl rfl)
    clear HBF
    go_wp2_with fail
    all_goals go_meet
    all_goals exact ⟨_, rfl, Lib.hid (by rw [HV.out]; rfl), HG5, HB5, HZ5⟩
   | true =>
    have HBG : Hid (∀ b3 b4 b5 b6, (u == v) = b3 → decide (x < 0) = b4 → decide (mid < 0) = b5 → (oB && decide (oV ≤ x)) = b6 → B = (!b3 && (!b4 && (!b5 && !b6)))) := Lib.hid (fun b3 b4 b5 b6 h3 h4 h5 h6 => HBF.out true true b3 b4 b5 b6 rfl rfl h3 h4 h5 h6)
    clear HBF
    cases e3 : (u == v) with
    | true =>
     have HV : Hid (B = false) := Lib.hid (HBG.out _ _ _ _ e3 rfl rfl rfl)
     clear HBG
     go_wp2_with fail
     all_goals go_meet
     all_goals exact ⟨_, rfl, Lib.hid (by rw [HV.out]; rfl), HG5, HB5, HZ5⟩
    | false =>
     cases e4 : decide (x < 0) with
     | true =>
      have HV : Hid (B = false) := Lib.hid (HBG.out _ _ _ _ e3 e4 rfl rfl)
      clear HBG
      go_wp2_with fail
      all_goals go_meet
      all_goals exact ⟨_, rfl, Lib.hid (by rw [HV.out]; rfl), HG5, HB5, HZ5⟩
     | false =>
      cases e5 : decide (mid < 0) with
      | true =>
       have HV : Hid (B = false) := Lib.hid (HBG.out _ _ _ _ e3 e4 e5 rfl)
       clear HBG
       go_wp2_with fail
       all_goals go_meet
       all_goals exact ⟨_, rfl, Lib.hid (by rw [HV.out]; rfl), HG5, HB5, HZ5⟩
      | false =>
       cases oB with
       | false =>
        have HV : Hid (B = true) := Lib.hid (HBG.out _ _ _ _ e3 e4 e5 rfl)
        clear HBG
        go_wp2_with fail
        all_goals go_meet
        all_goals exact ⟨_, rfl, Lib.hid (by rw [HV.out]; rfl), HG5, HB5, HZ5⟩
       | true =>
        cases e6 : decide (oV ≤ x) with
        | true =>
         have HV : Hid (B = false) := Lib.hid (HBG.out false false false true e3 e4 e5 (by first | rfl | (rw [e6]; rfl)))
         clear HBG
         go_wp2_with fail
         all_goals go_meet
         all_goals exact ⟨_, rfl, Lib.hid (by rw [HV.out]; rfl), HG5, HB5, HZ5⟩
        | false =>
         have HV : Hid (B = true) := Lib.hid (HBG.out false false false false e3 e4 e5 (by first | rfl | (rw [e6]; rfl)))
         clear HBG
         go_wp2_with fail
         all_goals go_meet
         all_goals exact ⟨_, rfl, Lib.hid (by rw [HV.out]; rfl), HG5, HB5, HZ5⟩
 case rest =>
 obtain ⟨bq, rfl, HBV, HG4, HB4, HZ4⟩ := hcut
 clear HG3 HB3 HZ3 HO3 hB HIU HIV HWX
 cases B with
 | false =>
  obtain rfl : bq = true := HBV.out
  obtain rfl : t = tq := HTQ.out
  obtain ⟨c0, c1, c2, c3, l0⟩ := HB4.out.cells
  obtain ⟨z0, z1, z2, z3, hz, hzf⟩ := HZ4.out.cells
  go_wp2_with fail
  all_goals (try rw [Exit.noGoto_ret])
  all_goals (refine bodyPost_ret (results_ct rfl _ _ (w.heap.size + 1) 121 #[.int .i64 n, (.slice A1 l1 k1), (.slice A2 len k2), (.slice A3 l3 k3)] (0, 0) _ rfl (ZB.put HZ4.out) Tryz.underlying121 rfl (by kernel_rfl)) rfl ?_)
  all_goals exact TPost.mk (.slice A2 len k2) false (by first | (rw [HN.out]; done) | (rw [HN.out]; rfl)) (.inl ⟨rfl, rfl⟩) (HTV.out.below (put4_below HG4.out (by omega))) (put4_below HG4.out (by omega))
 | true =>
  obtain rfl : bq = false := HBV.out
  have HTQ2 : Hid ({ t with l := dropW t.l u v ++ [⟨u, v, ⟨x, mid, -1⟩⟩] } = tq) := HTQ
  obtain ⟨l, hl⟩ : ∃ l, t.l = l := ⟨_, rfl⟩
  have HTL := Lib.hid hl
  rw [hl] at HC2 HL HTQ2
  clear hl HTQ
  have HF : Hid (∃ f : S156 → Bool, f = fun y => y.f0 != u || y.f1 != v) := Lib.hid ⟨_, rfl⟩
  obtain ⟨f, hfd⟩ := HF.out
  have HFD : Hid (∀ y : S156, f y = (y.f0 != u || y.f1 != v)) := Lib.hid (fun y => by rw [hfd])
  have HDW : Hid (dropW l u v = l.filter f) := Lib.hid (by rw [hfd]; rfl)
  clear hfd HF
  go_wp2_with fail
  go_loopw [14, 15] (fun v14 v15 wr => ∃ i : Nat, v15 = .int .i64 i ∧ i ≤ len ∧ Hid (Kd.R k156 156 wr wc.heap.size (fun _ => True) v14 ((l.take i).filter f)) ∧ Hid (Below wc.heap.size wc wr)) (fun _ v15 _ => len - (intOf v15).toNat)
  case atStart => exact ⟨0, rfl, by omega, Lib.hid (Kd.R_nil _ _ _ _ _), Lib.hid (Below.refl _ _)⟩
  case round =>
   obtain ⟨i, rfl, hi, HR, HG5⟩ := hrel
   have HB5 := Lib.hid (HB4.out.below HG5.out)
   obtain ⟨c0, c1, c2, c3, l0⟩ := HB5.out.cells
   have hsz : wc.heap.size ≤ wr.heap.size := HG5.out.size
   by_cases hlt : i < len
   ·obtain ⟨ad, hA2, r0, r1, r2, r3, r4⟩ := at_T156 (Kd.C_below HC2.out (HG4.out.trans (HG5.out.mono HG4.out.size))) (i : Int) (by omega) (by omega)
    have HTK := Lib.hid (rd132_take (l := l) (i := i) (by have := HL.out; omega) f)
    have hfl : ((l.take i).filter f).length ≤ len := by
     have h1 := List.length_filter_le f (l.take i)
     have h2 : (l.take i).length ≤ len := by rw [List.length_take]; have := HL.out; omega
     omega
    simp only [Int.toNat_natCast] at r0 r1 r2 r3 r4
    have HFE := Lib.hid (HFD.out (rd_T156 l (i : Int)))
    generalize rd_T156 l (i : Int) = e at *
    obtain ⟨a, b, ⟨q1, q2, q3⟩⟩ := e
    simp only at r0 r1 r2 r3 r4 HFE
    have hi0 : (0 : Int) ≤ (i : Int) := Int.natCast_nonneg _
    have hi1 : (i : Int) < (len : Int) := by omega
    generalize (l.take i).filter f = ys at *
    subst hA2
    cases e1 : (a != u) with
    | false =>
     have e1' : (a == u) = true := by have : (!(a == u)) = false := e1; simpa using this
     cases e2 : (b != v) with
     | false =>
      have e2' : (b == v) = true := by have : (!(b == v)) = false := e2; simpa using this
      have HN2 : Hid ((l.take (i + 1)).filter f = ys) := Lib.hid (by rw [HTK.out, HFE.out, e1, e2]; simp)
      clear HTK HFE
      go_wp2_with fail
      go_roundw
      case measure => simp [intOf]; omega
      case rel => exact ⟨i + 1, by go_num, by omega, Lib.hid (by rw [HN2.out]; exact HR.out), HG5⟩
     | true =>
      have e2' : (b == v) = false := by have : (!(b == v)) = true := e2; simpa using this
      have HN2 : Hid ((l.take (i + 1)).filter f = ys ++ [⟨a, b, ⟨q1, q2, q3⟩⟩]) := Lib.hid (by rw [HTK.out, HFE.out, e1, e2]; simp)
      clear HTK HFE
      go_wp2_with (at_builtin; refine Kd.R_append k156 (w0 := wc) (W := wr) wc.heap.size rfl (.tmp 81) (.tmp 87) 119 156 (.agg #[(.int .i64 0), (.int .i64 0), (.int .i64 0), (.int .i64 0), (.int .i64 0)]) 40 rfl Tryz.underlying119 info156 rfl (by decide) (by omega) _ ys (⟨a, b, ⟨q1, q2, q3⟩⟩ : S156) [.int .i64 a, .int .i64 b, .int .i64 q1, .int .i64 q2, .int .i64 q3] (fun _ => True) (fun _ => False) rfl rfl (k156_mkM _ _ _ (⟨a, b, ⟨q1, q2, q3⟩⟩ : S156)) (fun _ h => h.elim) (fun _ _ => trivial) HR.out HG5.out hsz (by omega) ?_; intro v1 w2 hR2 hB2 hg2 _; have HR2 := Lib.hid hR2; have HB2 := Lib.hid hB2; clear hR2 hB2 hg2)
      go_roundw
      case measure => simp [intOf]; omega
      case rel => exact ⟨i + 1, by go_num, by omega, Lib.hid (by rw [HN2.out]; exact HR2.out), HB2⟩
    | true =>
     have e1' : (a == u) = false := by have : (!(a == u)) = true := e1; simpa using this
     have HN2 : Hid ((l.take (i + 1)).filter f = ys ++ [⟨a, b, ⟨q1, q2, q3⟩⟩]) := Lib.hid (by rw [HTK.out, HFE.out, e1]; simp)
     clear HTK HFE
     go_wp2_with (at_builtin; refine Kd.R_append k156 (w0 := wc) (W := wr) wc.heap.size rfl (.tmp 81) (.tmp 87) 119 156 (.agg #[(.int .i64 0), (.int .i64 0), (.int .i64 0), (.int .i64 0), (.int .i64 0)]) 40 rfl Tryz.underlying119 info156 rfl (by decide) (by omega) _ ys (⟨a, b, ⟨q1, q2, q3⟩⟩ : S156) [.int .i64 a, .int .i64 b, .int .i64 q1, .int .i64 q2, .int .i64 q3] (fun _ => True) (fun _ => False) rfl rfl (k156_mkM _ _ _ (⟨a, b, ⟨q1, q2, q3⟩⟩ : S156)) (fun _ h => h.elim) (fun _ _ => trivial) HR.out HG5.out hsz (by omega) ?_; intro v1 w2 hR2 hB2 hg2 _; have HR2 := Lib.hid hR2; have HB2 := Lib.hid hB2; clear hR2 hB2 hg2)
     go_roundw
     case measure => simp [intOf]; omega
     case rel => exact ⟨i + 1, by go_num, by omega, Lib.hid (by rw [HN2.out]; exact HR2.out), HB2⟩
   ·have hil : len ≤ i := by omega
    have HYS : Hid ((l.take i).filter f = dropW l u v) := Lib.hid (by rw [List.take_of_length_le (by have := HL.out; omega), HDW.out])
    rw [HYS.out] at HR
    have hdl : (dropW l u v).length ≤ len := by
     have h1 := List.length_filter_le f l
     rw [HDW.out]; have := HL.out; omega
    generalize dropW l u v = ys at *
    go_upto_region 11 with (at_builtin; refine Kd.R_append k156 (w0 := wc) (W := wr) wc.heap.size rfl (.tmp 89) (.tmp 96) 119 156 (.agg #[(.int .i64 0), (.int .i64 0), (.int .i64 0), (.int .i64 0), (.int .i64 0)]) 40 rfl Tryz.underlying119 info156 rfl (by decide) (by omega) _ ys (⟨u, v, ⟨x, mid, -1⟩⟩ : S156) [.int .i64 u, .int .i64 v, .int .i64 x, .int .i64 mid, .int .i64 (-1)] (fun _ => True) (fun _ => False) rfl rfl (k156_mkM _ _ _ (⟨u, v, ⟨x, mid, -1⟩⟩ : S156)) (fun _ h => h.elim) (fun _ _ => trivial) HR.out HG5.out hsz (by omega) ?_; intro v1 w2 hR2 hB2 hg2 _; have HR2 := Lib.hid hR2; have HB2 := Lib.hid hB2; clear hR2 hB2 hg2)
    have HZS : Hid (∃ zs, ys ++ [(⟨u, v, ⟨x, mid, -1⟩⟩ : S156)] = zs) := Lib.hid ⟨_, rfl⟩
    obtain ⟨zs, hzs⟩ := HZS.out
    rw [hzs] at HR2 HTQ2
    have hzl : zs.length ≤ 1000000 := by rw [← hzs, List.length_append]; simp; omega
    clear hzs HZS HR HYS HDW
    obtain ⟨A', k', hv1, hk', hC'⟩ := Kd.R_reads HR2.out
    subst hv1
    have HC' := Lib.hid hC'
    obtain ⟨m, hm⟩ : ∃ m, zs.length = m := ⟨_, rfl⟩
    rw [hm] at hk' HC' hzl
    simp only [hm] at *
    have HB6 := Lib.hid (HB4.out.below HB2.out)
    have HZ6 := Lib.hid (HZ4.out.below HB2.out)
    have HG6 := Lib.hid (HG4.out.trans (HB2.out.mono HG4.out.size))
    have HRZ : Hid (Kd.R k156 156 w2 wc.heap.size (fun _ => True) (.slice A' m k') zs) := Lib.hid (by have h := HR2.out; (try rw [hm] at h); exact h)
    clear c0 c1 c2 c3 l0 hC' HR2 hm
    have hbf : ∀ j, w2.frozen? ⟨w.heap.size, j, none⟩ = false := fun j => blk_frozen HB6.out j
    obtain ⟨c0, c1, c2, c3, l0⟩ := HB6.out.cells
    go_upto_region 12 with fail
    have HB7 : Hid (TB (w2.setCell ⟨w.heap.size, 2, none⟩ (.slice A' m k')) w.heap.size n (.slice A1 l1 k1) (.slice A' m k') (.slice A3 l3 k3)) := Lib.hid (blk_put HB6.out 2 (.slice A' m k') (cs' := #[.int .i64 n, .slice A1 l1 k1, .slice A' m k', .slice A3 l3 k3]) rfl)
    have hne : w.heap.size + 1 ≠ w.heap.size := by omega
    have HZ7 : Hid (ZB (w2.setCell ⟨w.heap.size, 2, none⟩ (.slice A' m k')) (w.heap.size + 1)) := Lib.hid ((Below.heap_setCell w2 ⟨w.heap.size, 2, none⟩ _ (w.heap.size + 1) hne).trans HZ6.out)
    have HR7 : Hid (Kd.R k156 156 (w2.setCell ⟨w.heap.size, 2, none⟩ (.slice A' m k')) wc.heap.size (fun _ => True) (.slice A' m k') zs) := Lib.hid (Kd.R_set HRZ.out HB6.out (by decide) 2 _)
    have HG7 : Hid (Below w.heap.size w (w2.setCell ⟨w.heap.size, 2, none⟩ (.slice A' m k'))) := Lib.hid (HG6.out.setCell (p := ⟨w.heap.size, 2, none⟩) (Nat.le_refl _) _)
    clear hbf hne c0 c1 c2 c3 l0
    generalize w2.setCell ⟨w.heap.size, 2, none⟩ (.slice A' m k') = W7 at *
    obtain ⟨c0, c1, c2, c3, l0⟩ := HB7.out.cells
    obtain ⟨z0, z1, z2, z3, hz, hzf⟩ := HZ7.out.cells
    go_wp2_with fail
    all_goals (refine bodyPost_ret (results_ct rfl _ _ (w.heap.size + 1) 121 #[.int .i64 n, .slice A1 l1 k1, .slice A' m k', .slice A3 l3 k3] (0, 0) _ rfl (ZB.put HZ7.out) Tryz.underlying121 rfl (by kernel_rfl)) rfl ?_)
    all_goals exact TPost.mk (.slice A' m k') true (by rw [← HTQ2.out]; simp only; first | (rw [HN.out]; done) | (rw [HN.out]; rfl)) (.inr (by rw [← HTQ2.out]; exact Kd.R_lower (R_put4 HR7.out HZ7.out) HG4.out.size)) (TV.relaid HTQ2.out HCC.out HP.out.small (Kd.C_len HC'.out) hzl (put4_below HG7.out (by omega)) (R_put4 HR7.out HZ7.out)) (put4_below HG7.out (by omega))
end Go.Proofs.YtfkejflmhidnaaaGreat.PAll
