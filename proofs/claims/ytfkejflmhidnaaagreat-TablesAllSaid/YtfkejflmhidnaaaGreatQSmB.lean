import Derived.Test.YtfkejflmhidnaaaGreatQPAllx0
import Derived.Test.YtfkejflmhidnaaaGreatQRcP
set_option linter.all false
namespace Go.Proofs.YtfkejflmhidnaaaGreat.PAll
open RowKit YtfkejflmhidnaaaGreatW.PrintWords YtfkejflmhidnaaaGreatW.PrintLast YtfkejflmhidnaaaGreatW.PrintMore
attribute [local go_sem] max2_int min2_int max_two min_two max_three min_three max_four min_four
-- NOT PRINTED: function 96 (hier_Hier_At)
end Go.Proofs.YtfkejflmhidnaaaGreat.PAll
namespace Go.Proofs.YtfkejflmhidnaaaGreat.PAll
open RowKit YtfkejflmhidnaaaGreatW.PrintWords YtfkejflmhidnaaaGreatW.PrintLast YtfkejflmhidnaaaGreatW.PrintMore
open Hp hiding Good
end Go.Proofs.YtfkejflmhidnaaaGreat.PAll
namespace Go.Proofs.YtfkejflmhidnaaaGreat.PAll
open RowKit YtfkejflmhidnaaaGreatW.PrintWords YtfkejflmhidnaaaGreatW.PrintLast YtfkejflmhidnaaaGreatW.PrintMore
attribute [local go_sem] max2_int min2_int max_two min_two max_three min_three max_four min_four
theorem eqA39 (d : Nat) (w : World) (x0 y0 : Int) (x1 y1 : Int) :
    (Op.equalIn (d + 2) 37 (.agg #[.int .i64 x0, .int .i64 x1]) (.agg #[.int .i64 y0, .int .i64 y1])).run Tryz.prog w = .ok (x0 == y0 && (x1 == y1)) w := by
  refine eqA_of Tryz.underlying37 (by kernel_rfl) ?_
  refine eqf_cons (by rfl) (by go_simp; rfl) (by go_simp; rfl) (by go_simp) ?_
  exact eqf_last (by rfl) (by go_simp; rfl) (by go_simp; rfl) (by go_simp)
attribute [local go_sem high] eqA39
def postroadref11_Same.l0 : Nat → List (S37) → List (S37) → Int → Option (Bool)
  | 0, _, _, _ => none
  | k + 1, x0, x1, x5 => if x5 < (x0.length : Int) then (if 0 ≤ x5 then (if x5 < (x1.length : Int) then (if (!(((rd_T37 x0 x5).f0) == ((rd_T37 x1 x5).f0)) || (!(((rd_T37 x0 x5).f1) == ((rd_T37 x1 x5).f1)))) = true then (some false) else (postroadref11_Same.l0 k x0 x1 (wrap64 (x5 + 1)))) else (none)) else (none)) else (some true)
def postroadref11_Same.f (k : Nat) (l0 : List (S37)) (l1 : List (S37)) : Option (Bool) := if (l0.length : Int) = (l1.length : Int) then (postroadref11_Same.l0 k l0 l1 0) else (some false)
set_option maxHeartbeats 8000000 in
set_option maxRecDepth 100000 in
theorem postroadref11_Same.calls (k : Nat) (A0 : Option Addr) (c0 : Nat) (l0 : List (S37)) (A1 : Option Addr) (c1 : Nat) (l1 : List (S37)) (r : Bool) (w : World) (hr0 : Kd.C k37 w A0 l0.length l0) (hc0 : l0.length ≤ c0) (hr1 : Kd.C k37 w A1 l1.length l1) (hc1 : l1.length ≤ c1) (h : postroadref11_Same.f k l0 l1 = some r) :
    Calls Tryz.prog 21 #[.slice A0 l0.length c0, .slice A1 l1.length c1] w fun e w' => e = .returned (.bool r) ∧ Drawn0 w w' := by
  have hu39 := Tryz.underlying37
  have HR0 := Aside0.mk hr0
  have HC0 := Aside0.mk hc0
  clear hr0 hc0
  have HR1 := Aside0.mk hr1
  have HC1 := Aside0.mk hc1
  clear hr1 hc1
  have H : (if (l0.length : Int) = (l1.length : Int) then (postroadref11_Same.l0 k l0 l1 0) else (some false)) = some r := h
  clear h
  by_cases c3 : (l0.length : Int) = (l1.length : Int)
  · rw [if_pos c3] at H
    have c3b0 : ((l0.length : Int) == (l1.length : Int)) = true := beq_iff_eq.mpr c3
    have c3b1 : ((l0.length : Int) != (l1.length : Int)) = false := bne_eq_false_iff_eq.mpr c3
    have c3b2 : (l0.length == l1.length) = true := by first | simpa using c3 | (simp at c3 ⊢; omega)
    clear c3
    have H' := Aside0.mk H
    clear H
    go_enter Tryz.func21, Tryz.ntmps21
    go_wp2
    repeat (go_quiet (fail); try go_wp2)
    go_loopg [5] k (fun kq v5 w' => ∃ (x5_1 : Int), v5 = .int .i64 x5_1 ∧ Aside0 (postroadref11_Same.l0 kq l0 l1 x5_1 = some r) ∧ Aside0 (kq ≤ k) ∧ Drawn0 w w')
    case atStart => exact ⟨(0), (by first | rfl | (simp; done) | (simp [*]; done)), H', ⟨Nat.le_refl _⟩, by repeat (first | exact Drawn0.refl _ | apply Drawn0.step)⟩
    case round =>
      clear H'
      try clear c1
      try clear p2
      try clear c3
      try clear c3b0
      try clear c3b1
      try clear c3b2
      obtain ⟨x5_1, rfl, HA, HK1, ⟨m1, rfl⟩⟩ := hrel
      cases gk with
      | zero => exact absurd HA.out (by simp [postroadref11_Same.l0])
      | succ k1 =>
        have H := HA.out
        clear HA
        simp only [postroadref11_Same.l0] at H
        by_cases c4 : x5_1 < (l0.length : Int)
        · rw [if_pos c4] at H
          have c4b0 : decide (x5_1 < (l0.length : Int)) = true := decide_eq_true c4
          clear c4
          by_cases c5 : 0 ≤ x5_1
          · rw [if_pos c5] at H
            have c5b0 : decide (0 ≤ x5_1) = true := decide_eq_true c5
            clear c5
            by_cases c6 : x5_1 < (l1.length : Int)
            · rw [if_pos c6] at H
              have c6b0 : decide (x5_1 < (l1.length : Int)) = true := decide_eq_true c6
              clear c6
              by_cases c7 : (!(((rd_T37 l0 x5_1).f0) == ((rd_T37 l1 x5_1).f0)) || (!(((rd_T37 l0 x5_1).f1) == ((rd_T37 l1 x5_1).f1)))) = true
              · rw [if_pos c7] at H
                have c7b0 : (!(((rd_T37 l0 x5_1).f0) == ((rd_T37 l1 x5_1).f0)) || (!(((rd_T37 l0 x5_1).f1) == ((rd_T37 l1 x5_1).f1)))) = true := c7
                clear c7
                obtain rfl := Option.some.inj H
                have p427 : 0 ≤ (x5_1 : Int) := of_decide_eq_true (by first | (with_reducible assumption) | assumption)
                have q427 : x5_1 < (l0.length : Int) := of_decide_eq_true (by first | (with_reducible assumption) | assumption)
                obtain ⟨ad427, e427, hx427_0, hx427_1⟩ := at_T37 HR0.out x5_1 p427 q427
                cases e427
                replace p427 := eq_true p427
                replace q427 := eq_true q427
                have p428 : 0 ≤ (x5_1 : Int) := of_decide_eq_true (by first | (with_reducible assumption) | assumption)
                have q428 : x5_1 < (l1.length : Int) := of_decide_eq_true (by first | (with_reducible assumption) | assumption)
                obtain ⟨ad428, e428, hx428_0, hx428_1⟩ := at_T37 HR1.out x5_1 p428 q428
                cases e428
                replace p428 := eq_true p428
                replace q428 := eq_true q428
                go_wp2
                repeat (go_quiet (fail); try go_wp2)
                go_ret
                exact ⟨by first | rfl | (simp; done) | (simp [*]; done), by repeat (first | exact Drawn0.refl _ | apply Drawn0.step)⟩
              · rw [if_neg c7] at H
                have c7b0 : (!(((rd_T37 l0 x5_1).f0) == ((rd_T37 l1 x5_1).f0)) || (!(((rd_T37 l0 x5_1).f1) == ((rd_T37 l1 x5_1).f1)))) = false := by simpa using c7
                clear c7
                have H' := Aside0.mk H
                clear H
                have p427 : 0 ≤ (x5_1 : Int) := of_decide_eq_true (by first | (with_reducible assumption) | assumption)
                have q427 : x5_1 < (l0.length : Int) := of_decide_eq_true (by first | (with_reducible assumption) | assumption)
                obtain ⟨ad427, e427, hx427_0, hx427_1⟩ := at_T37 HR0.out x5_1 p427 q427
                cases e427
                replace p427 := eq_true p427
                replace q427 := eq_true q427
                have p428 : 0 ≤ (x5_1 : Int) := of_decide_eq_true (by first | (with_reducible assumption) | assumption)
                have q428 : x5_1 < (l1.length : Int) := of_decide_eq_true (by first | (with_reducible assumption) | assumption)
                obtain ⟨ad428, e428, hx428_0, hx428_1⟩ := at_T37 HR1.out x5_1 p428 q428
                cases e428
                replace p428 := eq_true p428
                replace q428 := eq_true q428
                go_wp2
                repeat (go_quiet (fail); try go_wp2)
                go_roundg k1
                case measure => have := HK1.out; omega
                case rel => exact ⟨(wrap64 (x5_1 + 1)), (by first | rfl | (simp; done) | (simp [*]; done)), H', ⟨by have := HK1.out; omega⟩, by repeat (first | exact Drawn0.refl _ | apply Drawn0.step)⟩
            · rw [if_neg c6] at H
              exact absurd H (by simp)
          · rw [if_neg c5] at H
            exact absurd H (by simp)
        · rw [if_neg c4] at H
          have c4b0 : decide (x5_1 < (l0.length : Int)) = false := decide_eq_false c4
          clear c4
          obtain rfl := Option.some.inj H
          go_wp2
          repeat (go_quiet (fail); try go_wp2)
          go_ret
          exact ⟨by first | rfl | (simp; done) | (simp [*]; done), by repeat (first | exact Drawn0.refl _ | apply Drawn0.step)⟩
  · rw [if_neg c3] at H
    have c3b0 : ((l0.length : Int) == (l1.length : Int)) = false := beq_eq_false_iff_ne.mpr c3
    have c3b1 : ((l0.length : Int) != (l1.length : Int)) = true := bne_iff_ne.mpr c3
    have c3b2 : (l0.length == l1.length) = false := by first | simpa using c3 | (simp at c3 ⊢; omega)
    obtain rfl := Option.some.inj H
    go_enter Tryz.func21, Tryz.ntmps21
    go_wp2
    repeat (go_quiet (fail); try go_wp2)
    go_ret
    exact ⟨by first | rfl | (simp; done) | (simp [*]; done), by repeat (first | exact Drawn0.refl _ | apply Drawn0.step)⟩
end Go.Proofs.YtfkejflmhidnaaaGreat.PAll
namespace Go.Proofs.YtfkejflmhidnaaaGreat.PAll
open RowKit YtfkejflmhidnaaaGreatW.PrintWords YtfkejflmhidnaaaGreatW.PrintLast YtfkejflmhidnaaaGreatW.PrintMore
open Hp hiding Good
theorem rd39_nat (l : List S37) (i : Nat) (h : i < l.length) : rd_T37 l (i : Int) = l[i] := by simp [rd_T37, List.getD, h]
theorem same_l (x y : List S37) (hxy : x.length = y.length) (hs : x.length ≤ 1000000) : ∀ (d i : Nat), i + d = x.length → ∃ r, postroadref11_Same.l0 (d + 1) x y (i : Int) = some r ∧ (r = true ↔ x.drop i = y.drop i)
  | 0, i, h => by
    rw [postroadref11_Same.l0, if_neg (by omega), List.drop_eq_nil_of_le (by omega), List.drop_eq_nil_of_le (by omega)]
    exact ⟨true, rfl, by simp⟩
  | d + 1, i, h => by
    have hi : i < x.length := by omega
    have hj : i < y.length := by omega
    rw [postroadref11_Same.l0, if_pos (by omega), if_pos (by omega), if_pos (by omega), rd39_nat x i hi, rd39_nat y i hj, List.drop_eq_getElem_cons hi, List.drop_eq_getElem_cons hj]
    obtain ⟨r, hr, hr2⟩ := same_l x y hxy hs d (i + 1) (by omega)
    by_cases e : x[i] = y[i]
    · rw [if_neg (by rw [e]; simp), wrap_is (by omega), show (i : Int) + 1 = ((i + 1 : Nat) : Int) by omega]
      refine ⟨r, hr, hr2.trans ?_⟩
      rw [List.cons.injEq]
      exact ⟨fun h => ⟨e, h⟩, And.right⟩
    · rw [if_pos (by
        have hne : ¬ (x[i].f0 = y[i].f0 ∧ x[i].f1 = y[i].f1) := fun ⟨h0, h1⟩ => e (by
          generalize x[i] = p at *
          generalize y[i] = q at *
          cases p; cases q; simp at h0 h1; rw [h0, h1])
        by_cases h0 : x[i].f0 = y[i].f0
        · have : ¬ x[i].f1 = y[i].f1 := fun h1 => hne ⟨h0, h1⟩
          simp [this]
        · simp [h0])]
      exact ⟨false, rfl, by constructor <;> intro h; cases h; exact absurd (List.cons.inj h).1 e⟩
theorem samePairs_walk (w : World) (A0 A1 : Option Addr) (c0 c1 : Nat) (x y : List S37) (h0 : Kd.C k37 w A0 x.length x) (hc0 : x.length ≤ c0) (h1 : Kd.C k37 w A1 y.length y) (hc1 : y.length ≤ c1) (hs : x.length ≤ 1000000) :
    Calls Tryz.prog 21 #[.slice A0 x.length c0, .slice A1 y.length c1] w fun r w' => ∃ b, r = .returned (.bool b) ∧ (b = true ↔ x = y) ∧ Drawn0 w w' := by
  have key : ∃ b, postroadref11_Same.f (x.length + 1) x y = some b ∧ (b = true ↔ x = y) := by
    unfold postroadref11_Same.f
    by_cases e : (x.length : Int) = (y.length : Int)
    · rw [if_pos e]
      obtain ⟨r, h2, h3⟩ := same_l x y (by omega) hs x.length 0 (by omega)
      exact ⟨r, h2, by simpa using h3⟩
    · rw [if_neg e]
      exact ⟨false, rfl, by constructor <;> intro h; cases h; exact absurd (by rw [h]) e⟩
  obtain ⟨b, hb, hb2⟩ := key
  refine (postroadref11_Same.calls (x.length + 1) A0 c0 x A1 c1 y b w h0 hc0 h1 hc1 hb).mono ?_
  rintro e w' ⟨rfl, hD⟩
  exact ⟨b, rfl, hb2, hD⟩
end Go.Proofs.YtfkejflmhidnaaaGreat.PAll
