import Derived.Test.YtfkejflmhidnaaaGreatQTpA
import Derived.Test.YtfkejflmhidnaaaGreatQFtC
import Derived.Test.YtfkejflmhidnaaaGreatQNeP
set_option linter.all false
namespace Go.Proofs.YtfkejflmhidnaaaGreat.PAll
open RowKit YtfkejflmhidnaaaGreatW.PrintWords YtfkejflmhidnaaaGreatW.PrintLast YtfkejflmhidnaaaGreatW.PrintMore
open Hp hiding Good
def endA (back : Bool) (y : S71) : Int := if back = true then y.f1 else y.f0
def endB (back : Bool) (y : S71) : Int := if back = true then y.f0 else y.f1
def EdgeR (rank : List Int) (ways : List S71) (top : Int) (back : Bool) (a b x : Int) : Prop := ∃ y ∈ ways, a = endA back y ∧ b = endB back y ∧ x = y.f2.f0 ∧ rd rank a < top ∧ rd rank a < rd rank b
structure RowOk (n : Nat) (E : Int → Int → Int → Prop) (s : Nat) (row : List Int) : Prop where
 len : row.length = n
 snd : ∀ x : Nat, x < n → 0 ≤ rd row (x : Int) → Wk E s x (rd row (x : Int))
 self : rd row (s : Int) = 0
 clo : ∀ a b x : Int, E a b x → 0 ≤ rd row a → 0 ≤ rd row b ∧ rd row b ≤ rd row a + x
 low : ∀ x : Nat, x < n → -1 ≤ rd row (x : Int)
theorem RowOk.least {n : Nat} {E : Int → Int → Int → Prop} {s : Nat} {row : List Int} (h : RowOk n E s row) {x d : Int} (hw : Wk E s x d) : 0 ≤ rd row x ∧ rd row x ≤ d := by
 obtain ⟨k, hw⟩ := hw
 induction k generalizing x d with
 | zero =>
  obtain ⟨rfl, rfl⟩ := hw
  rw [h.self]
  omega
 | succ k ih =>
  obtain ⟨y, e, w, h1, h2, h3⟩ := hw
  obtain ⟨i0, i1⟩ := ih h1
  have := h.clo _ _ _ h2 i0
  omega
def ClosedR (rank : List Int) (ways : List S71) (top : Int) (back : Bool) (i : Nat) (d : List Int) : Prop :=
 ∀ q : Nat, q < i → rd rank (endA back (rd_T71 ways (q : Int))) < top → rd rank (endA back (rd_T71 ways (q : Int))) < rd rank (endB back (rd_T71 ways (q : Int))) → 0 ≤ rd d (endA back (rd_T71 ways (q : Int))) →
  0 ≤ rd d (endB back (rd_T71 ways (q : Int))) ∧ rd d (endB back (rd_T71 ways (q : Int))) ≤ rd d (endA back (rd_T71 ways (q : Int))) + (rd_T71 ways (q : Int)).f2.f0
def CrPost (w : World) (n : Nat) (rank : List Int) (ways : List S71) (top : Int) (back : Bool) (v : Int) (r : Ending) (w' : World) : Prop :=
 ∃ (d : List Int) (gb : Nat), r = .returned (.slice (some ⟨gb, 0, none⟩) n n) ∧ Kd.R (Kd.int .i64) 3 w' w.heap.size (fun _ => True) (.slice (some ⟨gb, 0, none⟩) n n) d ∧ d.length = n ∧ ((v < 0 ∨ (n : Int) ≤ v) → d = List.replicate n (-1)) ∧ (∀ s : Nat, v = s → s < n → RowOk n (EdgeR rank ways top back) s d) ∧ Below w.heap.size w w'
set_option maxRecDepth 100000 in
set_option maxHeartbeats 8000000 in
theorem rclimb_walk (w : World) (n : Nat) (rank : List Int) (ways : List S71) (V : VH n rank ways) (rA wA : Option Addr) (rc wc : Nat) (hr : Kd.C (Kd.int .i64) w rA n rank) (hw : Kd.C k71 w wA ways.length ways) (v top : Int) (back : Bool) :
  Calls Tryz.prog 104 #[.agg #[.slice rA n rc, .slice wA ways.length wc], .int .i64 v, .int .i64 top, .bool back] w fun r w' => CrPost w n rank ways top back v r w' := by
 have hn := V.small
 have hf := V.few
 have HRL : Hid (rank.length = n) := Lib.hid V.rl
 have HVE : Hid (∀ q : Nat, q < ways.length → 0 ≤ endA back (rd_T71 ways (q : Int)) ∧ endA back (rd_T71 ways (q : Int)) < n ∧ 0 ≤ endB back (rd_T71 ways (q : Int)) ∧ endB back (rd_T71 ways (q : Int)) < n ∧ 0 ≤ (rd_T71 ways (q : Int)).f2.f0 ∧ (rd_T71 ways (q : Int)).f2.f0 ≤ 1125899906842624) := Lib.hid (fun q hq => by
  have := V.ends _ (rd66_mem ways q hq)
  unfold endA endB
  split <;> exact ⟨by omega, by omega, by omega, by omega, by omega, by omega⟩)
 have HEA : Hid (∀ q : Nat, q < ways.length → rd rank (endA back (rd_T71 ways (q : Int))) < top → rd rank (endA back (rd_T71 ways (q : Int))) < rd rank (endB back (rd_T71 ways (q : Int))) → EdgeR rank ways top back (endA back (rd_T71 ways (q : Int))) (endB back (rd_T71 ways (q : Int))) (rd_T71 ways (q : Int)).f2.f0) := Lib.hid (fun q hq h1 h2 => ⟨_, rd66_mem ways q hq, rfl, rfl, rfl, h1, h2⟩)
 have HAC : Hid (∀ (s : Nat) (d : List Int) (wm : Int), s < n → BInv n wm d → NS (fun x e => Wk (EdgeR rank ways top back) s x e) n d → rd d (s : Int) = 0 → ClosedR rank ways top back ways.length d → RowOk n (EdgeR rank ways top back) s d) := Lib.hid (fun s d wm hs hb hns h0 hcl => ⟨hb.len, fun x hx h => hns x hx h, h0, fun a b x h ha => by
  obtain ⟨y, hy, rfl, rfl, rfl, h1, h2⟩ := h
  obtain ⟨q, hq, rfl⟩ := mem66 hy
  exact hcl q hq h1 h2 ha, hb.low⟩)
 have HX0 := Lib.hid (HBx.new w (.slice rA n rc) (.slice wA ways.length wc))
 have HRK : Hid (∀ W, Below w.heap.size w W → Kd.C (Kd.int .i64) W rA rank.length rank) := Lib.hid (fun W g => by rw [V.rl]; exact Kd.C_below hr g)
 have HWC : Hid (∀ W, Below w.heap.size w W → Kd.C k71 W wA ways.length ways) := Lib.hid (fun W g => Kd.C_below hw g)
 obtain ⟨len, hlen⟩ : ∃ len, ways.length = len := ⟨_, rfl⟩
 rw [hlen] at HVE HEA HAC HX0 HWC hf ⊢
 clear hr hw hlen V
 obtain ⟨wm, hwm⟩ : ∃ wm : Int, wm = 1125899906842624 := ⟨_, rfl⟩
 have hw0 : 0 ≤ wm := by omega
 have hw1 : wm ≤ 1125899906842624 := by omega
 have HWM : Hid ((1125899906842624 : Int) ≤ wm) := Lib.hid (by omega)
 clear hwm
 obtain ⟨i0, hi0, hz0, hz1, hz2⟩ := info_parts info3'
 obtain ⟨c0, c1, l0⟩ := HX0.out.cells
 go_enter Tryz.func104, Tryz.ntmps104
 go_wp2_with (first | (at_make; refine wpList_make_full _ (by rfl) _ _ _ (by rfl) (w.alloc (.cells #[.slice rA n rc, .slice wA len wc] 31)).heap.size 3 i0 (.int .i64 0) 1 Tryz.underlying28 hi0 hz0 hz1 .i64 .i64 _ _ n (by rfl) (by rfl) rfl rfl (by rw [hz2]; omega) (by simp only [maxLen]; omega) (Nat.le_refl _) ?_; intro w4 hown hgrow; have HO4 := Lib.hid hown; have HG4 := Lib.hid hgrow; clear hown hgrow))
 have hsz : (w.alloc (.cells #[.slice rA n rc, .slice wA len wc] 31)).heap.size = w.heap.size + 1 := Array.size_push _
 generalize w.alloc (.cells #[.slice rA n rc, .slice wA len wc] 31) = W1 at *
 generalize w.heap.size + 1 = g1 at *
 subst hsz
 have HD4 : Hid (OwnI w4 W1.heap.size W1.heap.size n (List.replicate n 0)) := Lib.hid (by
  unfold OwnI
  rw [ints_zero]
  simpa [Value.cells] using HO4.out)
 have HB4 : Hid (Below W1.heap.size W1 w4) := Lib.hid ((Below.refl W1.heap.size W1).grown HG4.out (Nat.le_refl _) (fun k hk => by cases hk))
 clear HO4 HG4 c0 c1 l0
 have HCE : Hid (∀ W, Below W1.heap.size W1 W → W.cell? ⟨w.heap.size, 0, none⟩ = some (.slice rA n rc) ∧ W.cell? ⟨w.heap.size, 1, none⟩ = some (.slice wA len wc) ∧ w.heap.size < W.heap.size) := Lib.hid (fun W g => (HX0.out.below g).cells)
 have HRF : Hid (∀ W, Below W1.heap.size W1 W → ∀ v : Int, 0 ≤ v → v < n → ∃ ad, rA = some ad ∧ W.cell? (ad.add v.toNat) = some (.int .i64 (rd rank v))) := Lib.hid (fun W g v h0 h1 => rank_cell (HRK.out _ (Below.refl _ _)) (HX0.out.bel.trans (g.mono HX0.out.bel.size)) v h0 (by rw [HRL.out]; exact h1))
 have HWF : Hid (∀ W, Below W1.heap.size W1 W → Kd.C k71 W wA len ways) := Lib.hid (fun W g => HWC.out W (HX0.out.bel.trans (g.mono HX0.out.bel.size)))
 have HWB : Hid (∀ W, Below W1.heap.size W1 W → Below w.heap.size w W) := Lib.hid (fun W g => HX0.out.bel.trans (g.mono HX0.out.bel.size))
 have hwg : w.heap.size ≤ W1.heap.size := HX0.out.bel.size
 have h3n : W1.heap.size ≤ w4.heap.size := HB4.out.size
 generalize hgb : W1.heap.size = gb at *
 have HGB := Lib.hid hgb
 clear hgb HRK HWC HX0
 have hn0 : (0 : Int) ≤ (n : Int) := Int.natCast_nonneg _
 go_loopw [11] (fun v11 wr => ∃ (i : Nat) (x : List Int), v11 = .int .i64 i ∧ i ≤ n ∧ Hid (OwnI wr gb gb n x) ∧ Hid (Below gb W1 wr) ∧ Hid (∀ j : Nat, j < i → rd x j = -1)) (fun v11 _ => n - (intOf v11).toNat)
 case atStart => exact ⟨0, _, rfl, by omega, HD4, HB4, Lib.hid (fun j hj => by omega)⟩
 case round =>
  obtain ⟨i, x, rfl, hi, HOx, HB, HX⟩ := hrel
  clear HD4 HB4
  obtain ⟨c0, c1, l0⟩ := HCE.out wr HB.out
  by_cases hlt : i < n
  ·obtain ⟨d0, f0, l4⟩ := HOx.out.facts i hlt
   have hi0' : (0 : Int) ≤ (i : Int) := Int.natCast_nonneg _
   have hi1 : (i : Int) < (n : Int) := by omega
   generalize rd x (i : Int) = y at d0
   go_wp2_with fail
   go_roundw
   case measure => simp [intOf]; omega
   case rel =>
    refine ⟨i + 1, x.set i (-1), by go_num, by omega, Lib.hid (HOx.out.set i (-1)), Lib.hid (HB.out.setCell (p := ⟨gb, i, none⟩) (Nat.le_refl _) _), Lib.hid (fun j hj => ?_)⟩
    have hlen := HOx.out.len
    by_cases e : i = j
    ·subst e; exact rd_set_same (-1) (by omega)
    ·rw [rd_set_other (-1) e]; exact HX.out j (by omega)
  ·have HREP : Hid (x = List.replicate n (-1)) := Lib.hid (eq_rep HOx.out.len (fun j hj => HX.out j (by omega)))
   have hin : n ≤ i := by omega
   by_cases hv0 : v < 0
   ·have e1 : decide (v < 0) = true := by simpa using hv0
    go_wp2_with fail
    all_goals (try rw [Exit.noGoto_ret])
    all_goals go_ret
    all_goals exact ⟨x, gb, rfl, Kd.R_lower (Kd.R_of_own (enc := fun x : Int => .int .i64 x) (by rw [HOx.out.len]; exact HOx.out) (fun k hk => trivial)) hwg, HOx.out.len, fun _ => HREP.out, fun s hs hs2 => by omega, HWB.out _ HB.out⟩
   by_cases hv1 : v ≥ (n : Int)
   ·have e1 : decide (v < 0) = false := by simpa using hv0
    have e2 : decide (v ≥ (n : Int)) = true := by simpa using hv1
    go_wp2_with fail
    all_goals (try rw [Exit.noGoto_ret])
    all_goals go_ret
    all_goals exact ⟨x, gb, rfl, Kd.R_lower (Kd.R_of_own (enc := fun x : Int => .int .i64 x) (by rw [HOx.out.len]; exact HOx.out) (fun k hk => trivial)) hwg, HOx.out.len, fun _ => HREP.out, fun s hs hs2 => by omega, HWB.out _ HB.out⟩
   obtain ⟨s, rfl⟩ := Int.eq_ofNat_of_zero_le (show 0 ≤ v by omega)
   have hsn : s < n := by omega
   have hs0 : (0 : Int) ≤ (s : Int) := Int.natCast_nonneg _
   have hs1 : (s : Int) < (n : Int) := by omega
   have e1 : decide ((s : Int) < 0) = false := by simp
   have e2 : decide ((s : Int) ≥ (n : Int)) = false := by simpa using hv1
   have e3 : decide (n ≤ s) = false := by simp; omega
   obtain ⟨d0, f0, l4⟩ := HOx.out.facts s hsn
   generalize rd x (s : Int) = y at d0
   have HO2 := Lib.hid (HOx.out.set s 0)
   have HB2 := Lib.hid (HB.out.setCell (p := ⟨gb, s, none⟩) (Nat.le_refl _) (.int .i64 0))
   have HI2 : Hid (BInv n wm (x.set s 0)) := Lib.hid (by rw [HREP.out]; exact BInv.start n s hsn wm hw0)
   have HS2 : Hid (rd (x.set s 0) (s : Int) = 0) := Lib.hid (rd_set_same _ (by have := HOx.out.len; omega))
   have HN2 : Hid (NS (fun x e => Wk (EdgeR rank ways top back) s x e) n (x.set s 0)) := Lib.hid (fun z hz h0 => by
    have hlen := HOx.out.len
    by_cases e : s = z
    ·subst e; rw [rd_set_same _ (by omega)]; exact Wk.nil _ _
    ·rw [rd_set_other _ e] at h0
     rw [HREP.out] at h0
     exfalso
     rw [rd_get (by simpa using hz)] at h0
     simp at h0)
   generalize x.set s 0 = x2 at *
   clear HOx HX HREP hv0 hv1
   go_wp2_with fail
   generalize wr.setCell ⟨gb, s, none⟩ (.int .i64 0) = W5 at *
   clear c0 c1 l0 d0 f0 l4 HB
   go_loopg [12] (2 * meas n wm x2 + 2) (fun g v12 wr => ∃ (more : Bool) (d : List Int), v12 = .bool more ∧ Hid (OwnI wr gb gb n d) ∧ Hid (Below gb W1 wr) ∧ Hid (BInv n wm d) ∧ Hid (NS (fun x e => Wk (EdgeR rank ways top back) s x e) n d) ∧ Hid (rd d (s : Int) = 0) ∧ Hid (2 * meas n wm d + (if more = true then 1 else 0) < g) ∧ Hid (more = false → ClosedR rank ways top back len d))
   case atStart => exact ⟨true, x2, rfl, HO2, HB2, HI2, HN2, HS2, Lib.hid (by simp), Lib.hid (fun h => by cases h)⟩
   case round =>
    obtain ⟨more, d, rfl, HOd, HB, HI, HN, HSd, HM, HCL⟩ := hrel
    clear HO2 HB2 HI2 HN2 HS2
    obtain ⟨g, rfl⟩ : ∃ g, gk = g + 1 := ⟨gk - 1, by have := HM.out; omega⟩
    obtain ⟨c0, c1, l0⟩ := HCE.out wr HB.out
    cases more with
    | false =>
     have HROW := Lib.hid (HAC.out s d wm hsn HI.out HN.out HSd.out (HCL.out rfl))
     have hdl : d.length = n := HI.out.len
     have HRN : Hid (Kd.R (Kd.int .i64) 3 wr w.heap.size (fun _ => True) (.slice (some ⟨gb, 0, none⟩) n n) d) := Lib.hid (Kd.R_lower (Kd.R_of_own (enc := fun x : Int => .int .i64 x) (by rw [hdl]; exact HOd.out) (fun k hk => trivial)) hwg)
     clear HI HN HSd HM HCL
     go_wp2_with fail
     all_goals (try rw [Exit.noGoto_ret])
     all_goals go_ret
     all_goals exact ⟨d, gb, rfl, HRN.out, hdl, fun h => by omega, fun s' e _ => (by
      have e2 : s = s' := by omega
      rw [← e2]
      exact HROW.out), HWB.out _ HB.out⟩
    | true =>
     go_wp2_with fail
     go_loopw [12, 13] (fun v12 v13 wr => ∃ (i : Nat) (m1 : Bool) (d1 : List Int), v12 = .bool m1 ∧ v13 = .int .i64 i ∧ i ≤ len ∧ Hid (OwnI wr gb gb n d1) ∧ Hid (Below gb W1 wr) ∧ Hid (BInv n wm d1) ∧ Hid (NS (fun x e => Wk (EdgeR rank ways top back) s x e) n d1) ∧ Hid (rd d1 (s : Int) = 0) ∧ Hid (2 * meas n wm d1 + (if m1 = true then 1 else 0) ≤ 2 * meas n wm d) ∧ Hid (m1 = false → ClosedR rank ways top back i d1)) (fun _ v13 _ => len - (intOf v13).toNat)
     case atStart => exact ⟨0, false, d, rfl, rfl, by omega, HOd, HB, HI, HN, HSd, Lib.hid (by simp), Lib.hid (fun _ q hq => by omega)⟩
     case round =>
      obtain ⟨i, m1, d1, rfl, rfl, hi, HO1, HB1, HI1, HN1, HS1, HM1, HC1⟩ := hrel
      clear HOd HB HI HN HSd c0 c1 l0
      obtain ⟨c0, c1, l0⟩ := HCE.out wr HB1.out
      by_cases hil : i < len
      rotate_left
      ·have hle : len ≤ i := by omega
       have HIL : Hid (i = len) := Lib.hid (by omega)
       go_wp2_with fail
       go_roundg g
       case measure => omega
       case rel => exact ⟨m1, d1, rfl, HO1, HB1, HI1, HN1, HS1, Lib.hid (by have h1 := HM1.out; have h2 := HM.out; simp at h2; omega), Lib.hid (by rw [← HIL.out]; exact HC1.out)⟩
      obtain ⟨ad, hA2, r0, r1, r2, _, _⟩ := at_T71 (HWF.out wr HB1.out) (i : Int) (by omega) (by omega)
      have HEB := Lib.hid (HVE.out i hil)
      have HPE := Lib.hid (HEA.out i hil)
      have HC2 : Hid (∀ d2 : List Int, (m1 = false → d2 = d1) → (rd rank (endA back (rd_T71 ways (i : Int))) < top → rd rank (endA back (rd_T71 ways (i : Int))) < rd rank (endB back (rd_T71 ways (i : Int))) → 0 ≤ rd d2 (endA back (rd_T71 ways (i : Int))) → 0 ≤ rd d2 (endB back (rd_T71 ways (i : Int))) ∧ rd d2 (endB back (rd_T71 ways (i : Int))) ≤ rd d2 (endA back (rd_T71 ways (i : Int))) + (rd_T71 ways (i : Int)).f2.f0) → (m1 = false → ClosedR rank ways top back (i + 1) d2)) := Lib.hid (fun d2 h1 h2 h3 q hq => by
       rcases Nat.lt_or_ge q i with h | h
       ·have := HC1.out h3 q h
        rw [h1 h3]; exact this
       ·obtain rfl : q = i := by omega
        exact h2)
      simp only [Int.toNat_natCast] at r0 r1 r2
      have hEA : endA back (rd_T71 ways (i : Int)) = if back = true then (rd_T71 ways (i : Int)).f1 else (rd_T71 ways (i : Int)).f0 := rfl
      have hEB : endB back (rd_T71 ways (i : Int)) = if back = true then (rd_T71 ways (i : Int)).f0 else (rd_T71 ways (i : Int)).f1 := rfl
      generalize endA back (rd_T71 ways (i : Int)) = a at *
      generalize endB back (rd_T71 ways (i : Int)) = b at *
      generalize (rd_T71 ways (i : Int)).f2.f0 = x at *
      generalize (rd_T71 ways (i : Int)).f0 = ef0 at *
      generalize (rd_T71 ways (i : Int)).f1 = ef1 at *
      obtain ⟨ha0, ha1, hb0, hb1, hx0, hx1⟩ := HEB.out
      have hi0 : (0 : Int) ≤ (i : Int) := Int.natCast_nonneg _
      have hi1 : (i : Int) < (len : Int) := by omega
      subst hA2
      go_upto_region 17 with fail
      go_cut [15] from 54 to 59 (fun v15 wx => v15 = .int .i64 ef1 ∧ wx = wr)
      case first =>
       go_wp2_with fail
       all_goals go_meet
       all_goals exact ⟨rfl, rfl⟩
      case rest =>
      obtain ⟨rfl, hwx⟩ := hcut
      rw [hwx]
      clear hwx
      rename_i hK
      refine hK _ _ ?_
      refine wp_seq_k ?_
      intro K0 hK0
      go_cut [14, 15] from 60 to 72 (fun v14 v15 wx => v14 = .int .i64 a ∧ v15 = .int .i64 b ∧ wx = wr)
      case first =>
       cases back with
       | false =>
        simp only [if_neg (show ¬ (false = true) by decide)] at hEA hEB
        subst hEA hEB
        go_wp2_with fail
        all_goals go_meet
        all_goals exact ⟨rfl, rfl, rfl⟩
       | true =>
        simp only [if_true] at hEA hEB
        subst hEA hEB
        go_wp2_with fail
        all_goals go_meet
        all_goals exact ⟨rfl, rfl, rfl⟩
      case rest =>
      obtain ⟨rfl, rfl, hwx⟩ := hcut
      rw [hwx]
      clear hwx
      refine hK0 _ _ ?_
      clear r0 r1 hEA hEB
      obtain ⟨an, rfl⟩ := Int.eq_ofNat_of_zero_le ha0
      obtain ⟨bn, rfl⟩ := Int.eq_ofNat_of_zero_le hb0
      have han : an < n := by omega
      have hbn : bn < n := by omega
      obtain ⟨ar, hAr, ra⟩ := HRF.out wr HB1.out an ha0 ha1
      obtain ⟨ar', hAr', rb⟩ := HRF.out wr HB1.out bn hb0 hb1
      rw [hAr] at hAr'
      obtain rfl := Option.some.inj hAr'
      subst hAr
      clear hAr'
      simp only [Int.toNat_natCast] at ra rb
      obtain ⟨da, fa, lg⟩ := HO1.out.facts an han
      obtain ⟨db, fb, _⟩ := HO1.out.facts bn hbn
      have hta := HI1.out.top hw0 an han
      have hla := HI1.out.low an han
      have hlb := HI1.out.low bn hbn
      have hnw : (n : Int) * wm ≤ 900 * 1125899906842624 := Int.mul_le_mul (by omega) hw1 hw0 (by omega)
      have hwmx : x ≤ wm := by have := HWM.out; omega
      have hwrap : IntKind.i64.wrap (rd d1 (an : Int) + x) = rd d1 (an : Int) + x := i64w rfl (by omega) (by omega)
      obtain ⟨B, hB⟩ : ∃ B, decide (0 ≤ rd d1 (an : Int) ∧ rd rank (an : Int) < top ∧ rd rank (an : Int) < rd rank (bn : Int) ∧ (rd d1 (bn : Int) < 0 ∨ rd d1 (an : Int) + x < rd d1 (bn : Int))) = B := ⟨_, rfl⟩
      have HBT : Hid (B = true → 0 ≤ rd d1 (an : Int) ∧ rd rank (an : Int) < top ∧ rd rank (an : Int) < rd rank (bn : Int) ∧ (rd d1 (bn : Int) < 0 ∨ rd d1 (an : Int) + x < rd d1 (bn : Int))) := Lib.hid (fun e => by rw [e] at hB; exact of_decide_eq_true hB)
      have HBF : Hid (B = false → m1 = false → ClosedR rank ways top back (i + 1) d1) := Lib.hid (fun e h => HC2.out d1 (fun _ => rfl) (fun h1 h2 h0 => by
       rw [e] at hB
       have hn := of_decide_eq_false hB
       constructor
       ·apply Classical.byContradiction; intro h3; exact hn ⟨h0, h1, h2, .inl (by omega)⟩
       ·apply Classical.byContradiction; intro h3; exact hn ⟨h0, h1, h2, .inr (by omega)⟩) h)
      have HRX : Hid (B = true → BInv n wm (d1.set bn (rd d1 (an : Int) + x)) ∧ meas n wm (d1.set bn (rd d1 (an : Int) + x)) < meas n wm d1 ∧ NS (fun x e => Wk (EdgeR rank ways top back) s x e) n (d1.set bn (rd d1 (an : Int) + x)) ∧ rd (d1.set bn (rd d1 (an : Int) + x)) (s : Int) = 0) := Lib.hid (fun e => by
       obtain ⟨e3, e5, e6, e4⟩ := HBT.out e
       have h1 := HI1.out.relax hw0 han hbn hx0 hwmx e3 e4
       refine ⟨h1.1, h1.2, HN1.out.relax HI1.out.len hbn ((HN1.out an han e3).snoc (HPE.out e5 e6)), ?_⟩
       have h2 := HS1.out
       by_cases e5 : bn = s
       ·subst e5
        omega
       ·rw [rd_set_other _ e5]; exact h2)
      have HSW : Hid (∀ W, OwnI W gb gb n d1 → OwnI (W.setCell ⟨gb, bn, none⟩ (.int .i64 (rd d1 (an : Int) + x))) gb gb n (d1.set bn (rd d1 (an : Int) + x))) := Lib.hid (fun W hh => hh.set bn _)
      generalize rd d1 (an : Int) = qa at *
      generalize rd d1 (bn : Int) = qb at *
      generalize rd rank (an : Int) = ka at *
      generalize rd rank (bn : Int) = kb at *
      generalize d1.set bn (qa + x) = dn at *
      have hilen : i < len := hil
      clear hta hnw hla hlb
      go_upto_region 21 with fail
      go_cut [125] from 73 to 125 (fun v125 wx => v125 = .bool B ∧ wx = wr.drew)
      case first =>
       clear HWM HRL HVE HEA HAC HCE HRF HWF HWB HM HCL HO1 HB1 HI1 HN1 HS1 HM1 HC1 HEB HPE HC2 HBT HBF HRX HSW
       by_cases h3 : qa ≥ 0
       rotate_left
       ·have e7 : decide (qa ≥ 0) = false := by simpa using h3
        have HV : Hid (B = false) := Lib.hid (by rw [← hB]; exact decide_eq_false (fun ⟨h, _⟩ => h3 h))
        clear h3 hB
        go_region
        all_goals (try go_wp2_with fail)
        all_goals go_meet
        all_goals exact ⟨by rw [HV.out], rfl⟩
       have e7 : decide (qa ≥ 0) = true := by simpa using h3
       by_cases h6 : ka < top
       rotate_left
       ·have e8 : decide (ka < top) = false := by simpa using h6
        have HV : Hid (B = false) := Lib.hid (by rw [← hB]; exact decide_eq_false (fun ⟨_, h, _⟩ => h6 h))
        clear h3 h6 hB
        go_region
        all_goals (try go_wp2_with fail)
        all_goals go_meet
        all_goals exact ⟨by rw [HV.out], rfl⟩
       have e8 : decide (ka < top) = true := by simpa using h6
       by_cases h7 : kb > ka
       rotate_left
       ·have e9 : decide (kb > ka) = false := by simpa using h7
        have HV : Hid (B = false) := Lib.hid (by rw [← hB]; exact decide_eq_false (fun ⟨_, _, h, _⟩ => h7 h))
        clear h3 h6 h7 hB
        go_region
        all_goals (try go_wp2_with fail)
        all_goals go_meet
        all_goals exact ⟨by rw [HV.out], rfl⟩
       have e9 : decide (kb > ka) = true := by simpa using h7
       by_cases h4 : qb < 0
       ·have e10 : decide (qb < 0) = true := by simpa using h4
        have HV : Hid (B = true) := Lib.hid (by rw [← hB]; exact decide_eq_true ⟨h3, h6, h7, Or.inl h4⟩)
        clear h3 h4 h6 h7 hB
        go_region
        all_goals (try go_wp2_with fail)
        all_goals go_meet
        all_goals exact ⟨by rw [HV.out], rfl⟩
       have e10 : decide (qb < 0) = false := by simpa using h4
       by_cases h5 : qa + x < qb
       ·have e11 : decide (qa + x < qb) = true := by simpa using h5
        have HV : Hid (B = true) := Lib.hid (by rw [← hB]; exact decide_eq_true ⟨h3, h6, h7, Or.inr h5⟩)
        clear h3 h4 h5 h6 h7 hB
        go_region
        all_goals (try go_wp2_with fail)
        all_goals go_meet
        all_goals exact ⟨by rw [HV.out], rfl⟩
       ·have e11 : decide (qa + x < qb) = false := by simpa using h5
        have HV : Hid (B = false) := Lib.hid (by rw [← hB]; exact decide_eq_false (fun ⟨_, _, _, h⟩ => h.elim h4 h5))
        clear h3 h4 h5 h6 h7 hB
        go_region
        all_goals (try go_wp2_with fail)
        all_goals go_meet
        all_goals exact ⟨by rw [HV.out], rfl⟩
      case rest =>
      obtain ⟨rfl, rfl⟩ := hcut
      cases B with
      | false =>
       have HCF := Lib.hid (HBF.out rfl)
       clear da fa db fb lg HSW HRX HBT HBF
       go_wp2_with fail
       go_roundw
       case measure => simp [intOf]; omega
       case rel => exact ⟨i + 1, m1, d1, rfl, by go_num, by omega, Lib.hid (own_only HO1.out ((Only.refl _ (fun _ => False)).drewN 1) (fun _ _ f => f)), Lib.hid HB1.out.drew, HI1, HN1, HS1, HM1, HCF⟩
      | true =>
       have HRY := Lib.hid (HRX.out rfl)
       clear HRX HBT HBF hB
       have HO7 : Hid (OwnI wr.drew gb gb n d1) := Lib.hid (own_only HO1.out ((Only.refl _ (fun _ => False)).drewN 1) (fun _ _ f => f))
       have HB7 : Hid (Below gb W1 wr.drew) := Lib.hid HB1.out.drew
       have c0' : wr.drew.cell? ⟨w.heap.size, 0, none⟩ = some (.slice (some ar) n rc) := c0
       have c1' : wr.drew.cell? ⟨w.heap.size, 1, none⟩ = some (.slice (some ad) len _) := c1
       have l0' : w.heap.size < wr.drew.heap.size := l0
       have r2' := r2
       have ya : wr.drew.cell? ⟨gb, an, none⟩ = some (.int .i64 qa) := da
       have yb : wr.drew.cell? ⟨gb, bn, none⟩ = some (.int .i64 qb) := db
       have HR2 : Hid (wr.drew.cell? ⟨(ad.add (i * 5)).block, (ad.add (i * 5)).off + 2, none⟩ = some (.int .i64 x)) := Lib.hid r2
       have y2 := HR2.out
       clear c0 c1 l0 r2 r2' da db fa fb lg ra rb HO1 HB1 HR2
       generalize wr.drew = wq at *
       obtain ⟨_, fb, yg⟩ := HO7.out.facts bn hbn
       go_wp2_with fail
       go_region
       all_goals (try go_wp2_with fail)
       go_roundw
       case measure => simp [intOf]; omega
       case rel =>
        obtain ⟨z1, z2, z3, z4⟩ := HRY.out
        exact ⟨i + 1, true, dn, rfl, by go_num, by omega, Lib.hid (own_only (HSW.out _ HO7.out) ((Only.refl _ (fun _ => False)).drewN 1) (fun _ _ f => f)), Lib.hid (HB7.out.setCell (p := ⟨gb, bn, none⟩) (Nat.le_refl _) _).drew, Lib.hid z1, Lib.hid z3, Lib.hid z4, Lib.hid (by have := HM1.out; rw [if_pos rfl]; split at this <;> omega), Lib.hid (fun h => by cases h)⟩
end Go.Proofs.YtfkejflmhidnaaaGreat.PAll
