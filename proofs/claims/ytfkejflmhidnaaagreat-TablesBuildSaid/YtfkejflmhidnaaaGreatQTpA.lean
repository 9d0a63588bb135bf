import Derived.Test.YtfkejflmhidnaaaGreatQHpF
import Derived.Test.YtfkejflmhidnaaaGreatQTtB
import Derived.Test.YtfkejflmhidnaaaGreatQHnD
set_option linter.all false
namespace Go.Proofs.YtfkejflmhidnaaaGreat.PAll
open RowKit YW.PrintWords YW.PrintLast YW.PrintMore
open Hp hiding Good
def cntP (d : List Int) : Nat := d.countP fun x => decide (0 ≤ x)
structure BInv (n : Nat) (wm : Int) (d : List Int) : Prop where
 len : d.length = n
 low : ∀ x : Nat, x < n → -1 ≤ rd d (x : Int)
 high : ∀ x : Nat, x < n → rd d (x : Int) ≤ cntP d * wm
def meas (n : Nat) (wm : Int) (d : List Int) : Nat := (d.map fun x => if x < 0 then ((n : Int) * wm + 1).toNat else x.toNat).sum
theorem sum_set (f : Int → Nat) (v : Int) : ∀ (d : List Int) (b : Nat) (h : b < d.length), ((d.set b v).map f).sum + f d[b] = (d.map f).sum + f v
 | [], b, h => by simp at h
 | x :: d, 0, h => by simp; omega
 | x :: d, b + 1, h => by
  have := sum_set f v d b (by simpa using h)
  simp at this ⊢
  omega
theorem cnt_set (v : Int) : ∀ (d : List Int) (b : Nat) (h : b < d.length), cntP (d.set b v) + (if 0 ≤ d[b] then 1 else 0) = cntP d + (if 0 ≤ v then 1 else 0)
 | [], b, h => by simp at h
 | x :: d, 0, h => by
  simp only [cntP, List.set_cons_zero, List.countP_cons, List.getElem_cons_zero, decide_eq_true_eq]
  omega
 | x :: d, b + 1, h => by
  have := cnt_set v d b (by simpa using h)
  simp only [cntP, List.set_cons_succ, List.countP_cons, List.getElem_cons_succ, decide_eq_true_eq] at this ⊢
  omega
theorem rd_set_same {d : List Int} {b : Nat} (v : Int) (h : b < d.length) : rd (d.set b v) (b : Int) = v := by simp [rd, List.getD, h]
theorem rd_set_other {d : List Int} {b x : Nat} (v : Int) (h : b ≠ x) : rd (d.set b v) (x : Int) = rd d (x : Int) := by simp [rd, List.getD, h]
theorem rd_get {d : List Int} {b : Nat} (h : b < d.length) : rd d (b : Int) = d[b] := by simp [rd, List.getD, h]
theorem BInv.top {n : Nat} {wm : Int} {d : List Int} (h : BInv n wm d) (hw : 0 ≤ wm) (x : Nat) (hx : x < n) : rd d (x : Int) ≤ n * wm := by
 have h1 := h.high x hx
 have h2 : (cntP d : Int) ≤ n := by
  have : cntP d ≤ d.length := List.countP_le_length
  have := h.len; omega
 have h3 : (cntP d : Int) * wm ≤ n * wm := Int.mul_le_mul_of_nonneg_right h2 hw
 omega
theorem BInv.relax {n : Nat} {wm : Int} {d : List Int} (h : BInv n wm d) (hw : 0 ≤ wm) {a b : Nat} (ha : a < n) (hb : b < n) {w : Int} (h0 : 0 ≤ w) (h1 : w ≤ wm) (hda : 0 ≤ rd d (a : Int)) (hless : rd d (b : Int) < 0 ∨ rd d (a : Int) + w < rd d (b : Int)) :
  BInv n wm (d.set b (rd d (a : Int) + w)) ∧ meas n wm (d.set b (rd d (a : Int) + w)) < meas n wm d := by
 have hbl : b < d.length := by have := h.len; omega
 have hc := cnt_set (rd d (a : Int) + w) d b hbl
 rw [← rd_get hbl] at hc
 have hha := h.high a ha
 have hhb := h.high b hb
 have hta := h.top hw a ha
 have htb := h.top hw b hb
 have hcw : cntP d ≤ cntP (d.set b (rd d (a : Int) + w)) := by
  rw [if_pos (show (0 : Int) ≤ rd d (a : Int) + w by omega)] at hc
  split at hc <;> omega
 have hmono : (cntP d : Int) * wm ≤ cntP (d.set b (rd d (a : Int) + w)) * wm := Int.mul_le_mul_of_nonneg_right (by omega) hw
 have hnew : rd d (a : Int) + w ≤ cntP (d.set b (rd d (a : Int) + w)) * wm := by
  by_cases hneg : rd d (b : Int) < 0
  ·have hc2 : cntP (d.set b (rd d (a : Int) + w)) = cntP d + 1 := by
    rw [if_neg (by omega), if_pos (by omega)] at hc; omega
   rw [hc2, Int.natCast_add, Int.add_mul]
   simp
   omega
  ·omega
 have hnle : rd d (a : Int) + w ≤ n * wm := by
  have h2 : (cntP (d.set b (rd d (a : Int) + w)) : Int) ≤ n := by
   have : cntP (d.set b (rd d (a : Int) + w)) ≤ (d.set b (rd d (a : Int) + w)).length := List.countP_le_length
   have := h.len; simp at *; omega
  have h3 : (cntP (d.set b (rd d (a : Int) + w)) : Int) * wm ≤ n * wm := Int.mul_le_mul_of_nonneg_right h2 hw
  omega
 refine ⟨⟨by simp [h.len], fun x hx => ?_, fun x hx => ?_⟩, ?_⟩
 ·by_cases e : b = x
  ·subst e; rw [rd_set_same _ hbl]; omega
  ·rw [rd_set_other _ e]; exact h.low x hx
 ·by_cases e : b = x
  ·subst e; rw [rd_set_same _ hbl]; exact hnew
  ·rw [rd_set_other _ e]; have := h.high x hx; omega
 ·unfold meas
  have hs := sum_set (fun x => if x < 0 then ((n : Int) * wm + 1).toNat else x.toNat) (rd d (a : Int) + w) d b hbl
  rw [← rd_get hbl] at hs
  (try simp only at hs)
  rw [if_neg (show ¬ rd d (a : Int) + w < 0 by omega)] at hs
  by_cases hneg : rd d (b : Int) < 0
  ·rw [if_pos hneg] at hs
   omega
  ·rw [if_neg hneg] at hs
   omega
theorem BInv.start (n s : Nat) (hs : s < n) (wm : Int) (hw : 0 ≤ wm) : BInv n wm ((List.replicate n (-1)).set s 0) := by
 have hl : s < (List.replicate n (-1 : Int)).length := by simpa using hs
 have hr : ∀ x : Nat, rd (List.replicate n (-1 : Int)) (x : Int) = -1 ∨ rd (List.replicate n (-1 : Int)) (x : Int) = 0 := fun x => by
  simp only [rd, List.getD, Int.toNat_natCast, List.getElem?_replicate]
  split
  ·left; rfl
  ·right; rfl
 have hnn : (0 : Int) ≤ (cntP ((List.replicate n (-1)).set s 0) : Int) * wm := Int.mul_nonneg (by omega) hw
 refine ⟨by simp, fun x hx => ?_, fun x hx => ?_⟩
 ·by_cases e : s = x
  ·subst e; rw [rd_set_same _ hl]; omega
  ·rw [rd_set_other _ e]; rcases hr x with h | h <;> omega
 ·by_cases e : s = x
  ·subst e; rw [rd_set_same _ hl]; exact hnn
  ·rw [rd_set_other _ e]; rcases hr x with h | h <;> omega
theorem eq_rep {x : List Int} {n : Nat} (hl : x.length = n) (h : ∀ j : Nat, j < n → rd x (j : Int) = -1) : x = List.replicate n (-1) := by
 refine List.ext_getElem (by simpa using hl) (fun j h1 h2 => ?_)
 have := h j (by omega)
 rw [rd_get (by omega)] at this
 rw [this]; simp
def NS (P : Int → Int → Prop) (n : Nat) (d : List Int) : Prop := ∀ x : Nat, x < n → 0 ≤ rd d (x : Int) → P x (rd d (x : Int))
theorem NS.relax {P : Int → Int → Prop} {n : Nat} {d : List Int} (h : NS P n d) (hl : d.length = n) {b : Nat} (hb : b < n) {v : Int} (hv : P b v) : NS P n (d.set b v) := fun x hx h0 => by
 by_cases e : b = x
 ·subst e; rw [rd_set_same _ (by omega)]; exact hv
 ·rw [rd_set_other _ e] at h0 ⊢; exact h x hx h0
end Go.Proofs.YtfkejflmhidnaaaGreat.PAll
