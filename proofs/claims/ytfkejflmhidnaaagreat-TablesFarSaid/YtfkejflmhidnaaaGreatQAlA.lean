import Derived.Test.YtfkejflmhidnaaaGreatQZGcQ
import Derived.Test.YtfkejflmhidnaaaGreatQTpA
set_option linter.all false
namespace Go.Proofs.YtfkejflmhidnaaaGreat.PAll
open RowKit YtfkejflmhidnaaaGreatW.PrintWords YtfkejflmhidnaaaGreatW.PrintLast YtfkejflmhidnaaaGreatW.PrintMore
open Hp hiding Good
structure AllRow (n : Nat) (A : List S85) (s : Nat) (row : List Int) : Prop where
 len : row.length = n
 snd : ∀ x : Nat, x < n → 0 ≤ rd row (x : Int) → Wk (EA A) s x (rd row (x : Int))
 self : rd row (s : Int) = 0
 clo : ∀ a ∈ A, 0 ≤ rd row a.f0 → 0 ≤ rd row a.f1 ∧ rd row a.f1 ≤ rd row a.f0 + a.f2
 low : ∀ x : Nat, x < n → -1 ≤ rd row (x : Int)
theorem AllRow.least {n : Nat} {A : List S85} {s : Nat} {row : List Int} (h : AllRow n A s row) {x d : Int} (hw : Wk (EA A) s x d) : 0 ≤ rd row x ∧ rd row x ≤ d := by
 obtain ⟨k, hw⟩ := hw
 induction k generalizing x d with
 | zero =>
  obtain ⟨rfl, rfl⟩ := hw
  rw [h.self]
  omega
 | succ k ih =>
  obtain ⟨y, e, w, h1, ⟨a, ha, e0, e1, e2⟩, h3⟩ := hw
  obtain ⟨i0, i1⟩ := ih h1
  have := h.clo a ha (by rw [e0]; exact i0)
  rw [e1, e0, e2] at this
  omega
def Closed (A : List S85) (i : Nat) (d : List Int) : Prop := ∀ q : Nat, q < i → 0 ≤ rd d (rd_T85 A (q : Int)).f0 → 0 ≤ rd d (rd_T85 A (q : Int)).f1 ∧ rd d (rd_T85 A (q : Int)).f1 ≤ rd d (rd_T85 A (q : Int)).f0 + (rd_T85 A (q : Int)).f2
def AllPost (w : World) (n : Nat) (A : List S85) (r : Ending) (w' : World) : Prop := ∃ v out, r = .returned v ∧ Kd.R (Kd.slice 3 (Kd.int .i64)) 28 w' w.heap.size (fun _ => True) v out ∧ out.length = n ∧ (∀ q : Nat, q < n → AllRow n A q (out.getD q [])) ∧ Below w.heap.size w w'
set_option maxRecDepth 100000 in
set_option maxHeartbeats 8000000 in
theorem all7_walk (w : World) (n : Nat) (A : List S85) (Aa : Option Addr) (ca : Nat) (hC : Kd.C k85 w Aa A.length A) (hca : A.length ≤ ca) (hok : MapOk n A) :
  Calls Tryz.prog 16 #[.agg #[.int .i64 n, .slice Aa A.length ca]] w fun r w' => AllPost w n A r w' := by
 have HC := Lib.hid hC
 have hn12 := hok.n1
 have hfew := hok.few
 have HAR : Hid (∀ q : Nat, q < A.length → ArcOk n (rd_T85 A (q : Int))) := Lib.hid (fun q hq => hok.arcs _ (rd79_mem hq))
 have HEA : Hid (∀ q : Nat, q < A.length → EA A (rd_T85 A (q : Int)).f0 (rd_T85 A (q : Int)).f1 (rd_T85 A (q : Int)).f2) := Lib.hid (fun q hq => ⟨_, rd79_mem hq, rfl, rfl, rfl⟩)
 have HAC : Hid (∀ (s : Nat) (d : List Int) (wm : Int), s < n → BInv n wm d → NS (fun x e => Wk (EA A) s x e) n d → rd d (s : Int) = 0 → Closed A A.length d → AllRow n A s d) := Lib.hid (fun s d wm hs hb hns h0 hcl => ⟨hb.len, fun x hx h => hns x hx h, h0, fun a ha h => by
  obtain ⟨q, hq, rfl⟩ := mem79 ha
  exact hcl q hq h, hb.low⟩)
 obtain ⟨len, hlen⟩ : ∃ len, A.length = len := ⟨_, rfl⟩
 rw [hlen] at HC HAR HEA HAC hfew ⊢
 clear hC hca hok hlen
 obtain ⟨wm, hwm⟩ : ∃ wm : Int, wm = 2147483648 := ⟨_, rfl⟩
 have hw0 : 0 ≤ wm := by omega
 have hw1 : wm ≤ 2147483648 := by omega
 have HWM : Hid ((2147483648 : Int) ≤ wm) := Lib.hid (by omega)
 clear hwm
 obtain ⟨i0, hi0, hz0, hz1, hz2⟩ := info_parts info3'
 have HM0 := Lib.hid (blk_new w (.cells #[.int .i64 n, .slice Aa len ca] 24))
 have HG0 : Hid (Below w.heap.size w (w.alloc (.cells #[.int .i64 n, .slice Aa len ca] 24))) := Lib.hid ((Below.refl _ _).alloc (Nat.le_refl _) _)
 go_enter Tryz.func16, Tryz.ntmps16
 go_wp2_with fail
 generalize w.alloc (.cells #[.int .i64 n, .slice Aa len ca] 24) = W1 at *
 go_loopw [3, 4] (fun v3 v4 wr => ∃ (s : Nat) (out : List (List Int)), v4 = .int .i64 s ∧ s ≤ n ∧ Hid (Kd.R (Kd.slice 3 (Kd.int .i64)) 28 wr W1.heap.size (fun _ => True) v3 out) ∧ Hid (Below W1.heap.size W1 wr) ∧ Hid (out.length = s ∧ ∀ q : Nat, q < s → AllRow n A q (out.getD q []))) (fun _ v4 _ => n - (intOf v4).toNat)
 case atStart => exact ⟨0, [], rfl, by omega, Lib.hid (Kd.R_nil _ _ _ _ _), Lib.hid (Below.refl _ _), Lib.hid ⟨rfl, fun q hq => by omega⟩⟩
 case round =>
  obtain ⟨s, out, rfl, hs, HR, HG, HO⟩ := hrel
  have HCE : Hid (∀ W, Below W1.heap.size W1 W → W.cell? ⟨w.heap.size, 0, none⟩ = some (.int .i64 n) ∧ W.cell? ⟨w.heap.size, 1, none⟩ = some (.slice Aa len ca) ∧ w.heap.size < W.heap.size) := Lib.hid (fun W g => by
   have hb := (g.block _ (blk_lt HM0.out)).trans HM0.out
   exact ⟨(blk_cell hb 0).trans rfl, (blk_cell hb 1).trans rfl, blk_lt hb⟩)
  obtain ⟨c0, c1, l0⟩ := HCE.out wr HG.out
  by_cases hsn : s < n
  ·have hs0 : (0 : Int) ≤ (s : Int) := Int.natCast_nonneg _
   have hs1 : (s : Int) < (n : Int) := by omega
   obtain ⟨W3, hW3⟩ : ∃ W3, wr = W3 := ⟨_, rfl⟩
   rw [hW3] at HR HG c0 c1 l0
   rw [hW3]
   clear hW3
   go_wp2_with (first | (at_make; refine wpList_make_full _ (by rfl) _ _ _ (by rfl) W3.heap.size 3 i0 (.int .i64 0) 1 Tryz.underlying28 hi0 hz0 hz1 .i64 .i64 _ _ n (by rfl) (by rfl) rfl rfl (by rw [hz2]; omega) (by simp only [maxLen]; omega) (Nat.le_refl _) ?_; intro w4 hown hgrow; have HO4 := Lib.hid hown; have HG4 := Lib.hid hgrow; clear hown hgrow))
   have HD4 : Hid (OwnI w4 W3.heap.size W3.heap.size n (List.replicate n 0)) := Lib.hid (by
    unfold OwnI
    rw [ints_zero]
    simpa [Value.cells] using HO4.out)
   have HB4 : Hid (Below W3.heap.size W3 w4) := Lib.hid ((Below.refl W3.heap.size W3).grown HG4.out (Nat.le_refl _) (fun k hk => by cases hk))
   clear HO4 HG4 c0 c1 l0
   have h3n : W3.heap.size ≤ w4.heap.size := HB4.out.size
   have hwg : W1.heap.size ≤ W3.heap.size := HG.out.size
   have HR3 : Hid (∀ W, Below W3.heap.size W3 W → Kd.R (Kd.slice 3 (Kd.int .i64)) 28 W W1.heap.size (fun _ => True) u3 out) := Lib.hid (fun W g => Kd.R_below HR.out g)
   have HRL : Hid (∀ k, u3.ownBlock = some k → k < W3.heap.size) := Lib.hid (fun k hk => Kd.R_lt HR.out k hk)
   generalize hgb : W3.heap.size = gb at *
   have HGB := Lib.hid hgb
   clear hgb
   have HTW : Hid (∀ W, Below gb W3 W → Below W1.heap.size W1 W) := Lib.hid (fun W g => HG.out.trans (g.mono (by have := HG.out.size; have := HGB.out; omega)))
   go_loopw [6] (fun v6 wr => ∃ (i : Nat) (x : List Int), v6 = .int .i64 i ∧ i ≤ n ∧ Hid (OwnI wr gb gb n x) ∧ Hid (Below gb W3 wr) ∧ Hid (∀ j : Nat, j < i → rd x j = -1)) (fun v6 _ => n - (intOf v6).toNat)
   case atStart => exact ⟨0, _, rfl, by omega, HD4, HB4, Lib.hid (fun j hj => by omega)⟩
   case round =>
    obtain ⟨i, x, rfl, hi, HOx, HB, HX⟩ := hrel
    clear HD4 HB4
    obtain ⟨c0, c1, l0⟩ := HCE.out wr (HTW.out wr HB.out)
    by_cases hlt : i < n
    ·obtain ⟨d0, f0, l4⟩ := HOx.out.facts i hlt
     have hi0' : (0 : Int) ≤ (i : Int) := Int.natCast_nonneg _
     have hi1 : (i : Int) < (n : Int) := by omega
     generalize rd x (i : Int) = y at d0
     go_wp2_with fail
     go_roundw
     case measure => simp [intOf]; omega
     case rel =>
      refine ⟨i + 1, x.set i (-1), by go_num, by omega, Lib.hid (HOx.out.set i (-1)), Lib.hid (HB.out.setCell (p := ⟨gb, i, none⟩) (Nat.le_refl _) _), Lib.hid (fun j hj => ?_)⟩
      have hlen := HOx.out.len
      by_cases e : i = j
      ·subst e; exact rd_set_same (-1) (by omega)
      ·rw [rd_set_other (-1) e]; exact HX.out j (by omega)
    ·have HREP : Hid (x = List.replicate n (-1)) := Lib.hid (eq_rep HOx.out.len (fun j hj => HX.out j (by omega)))
     have hin : n ≤ i := by omega
     obtain ⟨d0, f0, l4⟩ := HOx.out.facts s hsn
     generalize rd x (s : Int) = y at d0
     have HO2 := Lib.hid (HOx.out.set s 0)
     have HB2 := Lib.hid (HB.out.setCell (p := ⟨gb, s, none⟩) (Nat.le_refl _) (.int .i64 0))
     have HI2 : Hid (BInv n wm (x.set s 0)) := Lib.hid (by rw [HREP.out]; exact BInv.start n s hsn wm hw0)
     have HS2 : Hid (rd (x.set s 0) (s : Int) = 0) := Lib.hid (rd_set_same _ (by have := HOx.out.len; omega))
     have HN2 : Hid (NS (fun x e => Wk (EA A) s x e) n (x.set s 0)) := Lib.hid (fun z hz h0 => by
      have hlen := HOx.out.len
      by_cases e : s = z
      ·subst e; rw [rd_set_same _ (by omega)]; exact Wk.nil _ _
      ·rw [rd_set_other _ e] at h0
       rw [HREP.out] at h0
       exfalso
       rw [rd_get (by simpa using hz)] at h0
       simp at h0)
     generalize x.set s 0 = x2 at *
     clear HOx HX HREP
     go_wp2_with fail
     generalize wr.setCell ⟨gb, s, none⟩ (.int .i64 0) = W5 at *
     clear c0 c1 l0 d0 f0 l4 HB
     go_loopg [7] (2 * meas n wm x2 + 2) (fun g v7 wr => ∃ (more : Bool) (d : List Int), v7 = .bool more ∧ Hid (OwnI wr gb gb n d) ∧ Hid (Below gb W3 wr) ∧ Hid (BInv n wm d) ∧ Hid (NS (fun x e => Wk (EA A) s x e) n d) ∧ Hid (rd d (s : Int) = 0) ∧ Hid (2 * meas n wm d + (if more = true then 1 else 0) < g) ∧ Hid (more = false → Closed A len d))
     case atStart => exact ⟨true, x2, rfl, HO2, HB2, HI2, HN2, HS2, Lib.hid (by simp), Lib.hid (fun h => by cases h)⟩
     case round =>
      obtain ⟨more, d, rfl, HOd, HB, HI, HN, HSd, HM, HCL⟩ := hrel
      clear HO2 HB2 HI2 HN2 HS2
      obtain ⟨g, rfl⟩ : ∃ g, gk = g + 1 := ⟨gk - 1, by have := HM.out; omega⟩
      obtain ⟨c0, c1, l0⟩ := HCE.out wr (HTW.out wr HB.out)
      cases more with
      | false =>
       have HROW := Lib.hid (HAC.out s d wm hsn HI.out HN.out HSd.out (HCL.out rfl))
       have hdl : d.length = n := HI.out.len
       have HRN : Hid (Kd.R (Kd.int .i64) 3 wr W1.heap.size (fun k => k = gb) (.slice (some ⟨gb, 0, none⟩) n n) d) := Lib.hid (Kd.R_lower (Kd.R_of_own (enc := fun x : Int => .int .i64 x) (by rw [hdl]; exact HOd.out) (fun k hk => by cases hk; rfl)) hwg)
       have HRO := Lib.hid (HR3.out wr HB.out)
       have HBW := Lib.hid (HTW.out wr HB.out)
       have hol : out.length ≤ 12 := by have := HO.out.1; omega
       clear HI HN HSd HM HCL
       go_wp2_with (at_builtin; refine Kd.R_append (Kd.slice 3 (Kd.int .i64)) (w0 := W1) (W := wr) W1.heap.size rfl (.tmp 86) (.tmp 88) 38 28 (.slice none 0 0) 24 rfl Tryz.underlying38 info28 rfl (by decide) (by omega) _ out d [.slice (some ⟨gb, 0, none⟩) n n] (fun _ => True) (fun k => k = gb) rfl rfl ⟨_, rfl, HRN.out⟩ (fun k hk => ⟨trivial, fun e => by have := HRL.out k e.symm; omega⟩) (fun _ _ => trivial) HRO.out HBW.out HBW.out.size (by omega) ?_; intro v1 w2 hR2 hB2 hg2 _; have HR2 := Lib.hid hR2; have HB5 := Lib.hid hB2; clear hR2 hB2 hg2)
       go_roundw
       case measure => simp [intOf]; omega
       case rel => exact ⟨s + 1, out ++ [d], by go_num, by omega, HR2, HB5, Lib.hid ⟨by rw [List.length_append, HO.out.1]; rfl, fun q hq => by
        rcases Nat.lt_or_ge q s with h | h
        ·have := HO.out.2 q h
         have e : (out ++ [d]).getD q [] = out.getD q [] := by simp [List.getD, List.getElem?_append_left (show q < out.length by have := HO.out.1; omega)]
         rw [e]; exact this
        ·obtain rfl : q = s := by omega
         have e : (out ++ [d]).getD q [] = d := by simp [List.getD, List.getElem?_append_right (show out.length ≤ q by have := HO.out.1; omega), HO.out.1]
         rw [e]; exact HROW.out⟩⟩
      | true =>
       go_wp2_with fail
       go_loopw [7, 8] (fun v7 v8 wr => ∃ (i : Nat) (m1 : Bool) (d1 : List Int), v7 = .bool m1 ∧ v8 = .int .i64 i ∧ i ≤ len ∧ Hid (OwnI wr gb gb n d1) ∧ Hid (Below gb W3 wr) ∧ Hid (BInv n wm d1) ∧ Hid (NS (fun x e => Wk (EA A) s x e) n d1) ∧ Hid (rd d1 (s : Int) = 0) ∧ Hid (2 * meas n wm d1 + (if m1 = true then 1 else 0) ≤ 2 * meas n wm d) ∧ Hid (m1 = false → Closed A i d1)) (fun _ v8 _ => len - (intOf v8).toNat)
       case atStart => exact ⟨0, false, d, rfl, rfl, by omega, HOd, HB, HI, HN, HSd, Lib.hid (by simp), Lib.hid (fun _ q hq => by omega)⟩
       case round =>
        obtain ⟨i, m1, d1, rfl, rfl, hi, HO1, HB1, HI1, HN1, HS1, HM1, HC1⟩ := hrel
        clear HOd HB HI HN HSd c0 c1 l0
        obtain ⟨c0, c1, l0⟩ := HCE.out wr (HTW.out wr HB1.out)
        by_cases hil : i < len
        rotate_left
        ·have hle : len ≤ i := by omega
         have HIL : Hid (i = len) := Lib.hid (by omega)
         go_wp2_with fail
         go_roundg g
         case measure => omega
         case rel => exact ⟨m1, d1, rfl, HO1, HB1, HI1, HN1, HS1, Lib.hid (by have h1 := HM1.out; have h2 := HM.out; simp at h2; omega), Lib.hid (by rw [← HIL.out]; exact HC1.out)⟩
        obtain ⟨ad, hA2, r0, r1, r2⟩ := at_T85 (Kd.C_below HC.out (HG0.out.trans ((HTW.out wr HB1.out).mono HG0.out.size))) (i : Int) (by omega) (by omega)
        have HEB := Lib.hid (HAR.out i hil)
        have HPE := Lib.hid (HEA.out i hil)
        have HC2 : Hid (∀ d2 : List Int, (m1 = false → d2 = d1) → (0 ≤ rd d2 (rd_T85 A (i : Int)).f0 → 0 ≤ rd d2 (rd_T85 A (i : Int)).f1 ∧ rd d2 (rd_T85 A (i : Int)).f1 ≤ rd d2 (rd_T85 A (i : Int)).f0 + (rd_T85 A (i : Int)).f2) → (m1 = false → Closed A (i + 1) d2)) := Lib.hid (fun d2 h1 h2 h3 q hq => by
         rcases Nat.lt_or_ge q i with h | h
         ·have := HC1.out h3 q h
          rw [h1 h3]; exact this
         ·obtain rfl : q = i := by omega
          exact h2)
        simp only [Int.toNat_natCast] at r0 r1 r2
        generalize rd_T85 A (i : Int) = e at *
        obtain ⟨a, b, x⟩ := e
        simp only at r0 r1 r2 HEB HPE HC2
        obtain ⟨ha0, ha1, hb0, hb1, hx0, hx1⟩ := HEB.out
        simp only at ha0 ha1 hb0 hb1 hx0 hx1
        obtain ⟨an, rfl⟩ := Int.eq_ofNat_of_zero_le ha0
        obtain ⟨bn, rfl⟩ := Int.eq_ofNat_of_zero_le hb0
        have han : an < n := by omega
        have hbn : bn < n := by omega
        have hi0 : (0 : Int) ≤ (i : Int) := Int.natCast_nonneg _
        have hi1 : (i : Int) < (len : Int) := by omega
        have h3r : gb ≤ wr.heap.size := by have h1 := HGB.out; have h2 := HB1.out.size; omega
        have hO6 : OwnI (wr.alloc (.cells #[.int .i64 an, .int .i64 bn, .int .i64 x] 85)) gb gb n d1 := own_only HO1.out ((Only.refl wr (fun _ => False)).alloc _) (fun _ _ f => f)
        have hB6 : Below gb W3 (wr.alloc (.cells #[.int .i64 an, .int .i64 bn, .int .i64 x] 85)) := HB1.out.alloc h3r _
        have hX6 := blk_new wr (.cells #[.int .i64 an, .int .i64 bn, .int .i64 x] 85)
        have HO6 := Lib.hid hO6
        have HB6 := Lib.hid hB6
        have HX6 := Lib.hid hX6
        clear hO6 hB6 hX6 HO1 HB1 HEB
        subst hA2
        go_upto_region 18 with fail
        obtain ⟨da, fa, lg⟩ := HO6.out.facts an han
        obtain ⟨db, fb, _⟩ := HO6.out.facts bn hbn
        have hta := HI1.out.top hw0 an han
        have hla := HI1.out.low an han
        have hlb := HI1.out.low bn hbn
        have hnw : (n : Int) * wm ≤ 1000 * 2147483648 := Int.mul_le_mul (by omega) hw1 hw0 (by omega)
        have hwmx : x ≤ wm := by have := HWM.out; omega
        have hwrap : IntKind.i64.wrap (rd d1 (an : Int) + x) = rd d1 (an : Int) + x := i64w rfl (by omega) (by omega)
        obtain ⟨B, hB⟩ : ∃ B, decide (0 ≤ rd d1 (an : Int) ∧ (rd d1 (bn : Int) < 0 ∨ rd d1 (an : Int) + x < rd d1 (bn : Int))) = B := ⟨_, rfl⟩
        have HBT : Hid (B = true → 0 ≤ rd d1 (an : Int) ∧ (rd d1 (bn : Int) < 0 ∨ rd d1 (an : Int) + x < rd d1 (bn : Int))) := Lib.hid (fun e => by rw [e] at hB; exact of_decide_eq_true hB)
        have HBF : Hid (B = false → m1 = false → Closed A (i + 1) d1) := Lib.hid (fun e h => HC2.out d1 (fun _ => rfl) (fun h0 => by
         rw [e] at hB
         have hn := of_decide_eq_false hB
         constructor
         ·apply Classical.byContradiction; intro h1; exact hn ⟨h0, .inl (by omega)⟩
         ·apply Classical.byContradiction; intro h1; exact hn ⟨h0, .inr (by omega)⟩) h)
        have HRX : Hid (B = true → BInv n wm (d1.set bn (rd d1 (an : Int) + x)) ∧ meas n wm (d1.set bn (rd d1 (an : Int) + x)) < meas n wm d1 ∧ NS (fun x e => Wk (EA A) s x e) n (d1.set bn (rd d1 (an : Int) + x)) ∧ rd (d1.set bn (rd d1 (an : Int) + x)) (s : Int) = 0) := Lib.hid (fun e => by
         obtain ⟨e3, e4⟩ := HBT.out e
         have h1 := HI1.out.relax hw0 han hbn hx0 hwmx e3 e4
         refine ⟨h1.1, h1.2, HN1.out.relax HI1.out.len hbn ((HN1.out an han e3).snoc HPE.out), ?_⟩
         have h2 := HS1.out
         by_cases e5 : bn = s
         ·subst e5
          omega
         ·rw [rd_set_other _ e5]; exact h2)
        have HSET : Hid (∃ dn, d1.set bn (rd d1 (an : Int) + x) = dn) := Lib.hid ⟨_, rfl⟩
        have x0' := (blk_cell HX6.out 0).trans rfl
        have x1' := (blk_cell HX6.out 1).trans rfl
        have x2' := (blk_cell HX6.out 2).trans rfl
        have lx := blk_lt HX6.out
        have ka0 : (0 : Int) ≤ (an : Int) := Int.natCast_nonneg _
        have kb0 : (0 : Int) ≤ (bn : Int) := Int.natCast_nonneg _
        have HSW : Hid (∀ W, OwnI W gb gb n d1 → OwnI (W.setCell ⟨gb, bn, none⟩ (.int .i64 (rd d1 (an : Int) + x))) gb gb n (d1.set bn (rd d1 (an : Int) + x))) := Lib.hid (fun W hh => hh.set bn _)
        generalize rd d1 (an : Int) = qa at *
        generalize rd d1 (bn : Int) = qb at *
        generalize d1.set bn (qa + x) = dn at *
        clear r0 r1 r2 HSET hta hnw ha0 hb0 c0 c1
        go_cut [73] from 44 to 73 (fun v73 wx => v73 = .bool B ∧ wx = (wr.alloc (.cells #[.int .i64 an, .int .i64 bn, .int .i64 x] 85)).drew)
        case first =>
         by_cases h3 : qa ≥ 0
         rotate_left
         ·have e7 : decide (qa ≥ 0) = false := by simpa using h3
          have HV : Hid (B = false) := Lib.hid (by rw [← hB]; exact decide_eq_false (fun ⟨h, _⟩ => h3 h))
          clear h3 hB
          go_region
          all_goals (try go_wp2_with fail)
          all_goals go_meet
          all_goals exact ⟨by rw [HV.out], rfl⟩
         have e7 : decide (qa ≥ 0) = true := by simpa using h3
         by_cases h4 : qb < 0
         ·have e8 : decide (qb < 0) = true := by simpa using h4
          have HV : Hid (B = true) := Lib.hid (by rw [← hB]; exact decide_eq_true ⟨h3, Or.inl h4⟩)
          clear h3 h4 hB
          go_region
          all_goals (try go_wp2_with fail)
          all_goals go_meet
          all_goals exact ⟨by rw [HV.out], rfl⟩
         have e8 : decide (qb < 0) = false := by simpa using h4
         by_cases h5 : qa + x < qb
         ·have e9 : decide (qa + x < qb) = true := by simpa using h5
          have HV : Hid (B = true) := Lib.hid (by rw [← hB]; exact decide_eq_true ⟨h3, Or.inr h5⟩)
          clear h3 h4 h5 hB
          go_region
          all_goals (try go_wp2_with fail)
          all_goals go_meet
          all_goals exact ⟨by rw [HV.out], rfl⟩
         ·have e9 : decide (qa + x < qb) = false := by simpa using h5
          have HV : Hid (B = false) := Lib.hid (by rw [← hB]; exact decide_eq_false (fun ⟨_, h⟩ => h.elim h4 h5))
          clear h3 h4 h5 hB
          go_region
          all_goals (try go_wp2_with fail)
          all_goals go_meet
          all_goals exact ⟨by rw [HV.out], rfl⟩
        case rest =>
        obtain ⟨rfl, rfl⟩ := hcut
        cases B with
        | false =>
         have HCF := Lib.hid (HBF.out rfl)
         clear da fa db fb lg HSW HRX HBT HBF
         go_wp2_with fail
         go_roundw
         case measure => simp [intOf]; omega
         case rel => exact ⟨i + 1, m1, d1, rfl, by go_num, by omega, Lib.hid (own_only HO6.out ((Only.refl _ (fun _ => False)).drewN 1) (fun _ _ f => f)), Lib.hid HB6.out.drew, HI1, HN1, HS1, HM1, HCF⟩
        | true =>
         have HRY := Lib.hid (HRX.out rfl)
         have hilen : i < len := hil
         clear HRX HBT HBF hB
         have y0 : ((wr.alloc (.cells #[.int .i64 an, .int .i64 bn, .int .i64 x] 85)).drew).cell? ⟨wr.heap.size, 0, none⟩ = some (.int .i64 an) := x0'
         have y1 : ((wr.alloc (.cells #[.int .i64 an, .int .i64 bn, .int .i64 x] 85)).drew).cell? ⟨wr.heap.size, 1, none⟩ = some (.int .i64 bn) := x1'
         have y2 : ((wr.alloc (.cells #[.int .i64 an, .int .i64 bn, .int .i64 x] 85)).drew).cell? ⟨wr.heap.size, 2, none⟩ = some (.int .i64 x) := x2'
         have ya : ((wr.alloc (.cells #[.int .i64 an, .int .i64 bn, .int .i64 x] 85)).drew).cell? ⟨gb, an, none⟩ = some (.int .i64 qa) := da
         have yb : ((wr.alloc (.cells #[.int .i64 an, .int .i64 bn, .int .i64 x] 85)).drew).cell? ⟨gb, bn, none⟩ = some (.int .i64 qb) := db
         have yl : wr.heap.size < ((wr.alloc (.cells #[.int .i64 an, .int .i64 bn, .int .i64 x] 85)).drew).heap.size := lx
         have HO7 : Hid (OwnI ((wr.alloc (.cells #[.int .i64 an, .int .i64 bn, .int .i64 x] 85)).drew) gb gb n d1) := Lib.hid (own_only HO6.out ((Only.refl _ (fun _ => False)).drewN 1) (fun _ _ f => f))
         have HB7 : Hid (Below gb W3 ((wr.alloc (.cells #[.int .i64 an, .int .i64 bn, .int .i64 x] 85)).drew)) := Lib.hid HB6.out.drew
         clear x0' x1' x2' da db fa fb lx lg HO6 HB6 HX6
         generalize ((wr.alloc (.cells #[.int .i64 an, .int .i64 bn, .int .i64 x] 85)).drew) = wq at *
         obtain ⟨_, fb, yg⟩ := HO7.out.facts bn hbn
         go_wp2_with fail
         go_region
         all_goals (try go_wp2_with fail)
         go_roundw
         case measure => simp [intOf]; omega
         case rel =>
          obtain ⟨z1, z2, z3, z4⟩ := HRY.out
          exact ⟨i + 1, true, dn, rfl, by go_num, by omega, Lib.hid (own_only (HSW.out _ HO7.out) ((Only.refl _ (fun _ => False)).drewN 1) (fun _ _ f => f)), Lib.hid (HB7.out.setCell (p := ⟨gb, bn, none⟩) (Nat.le_refl _) _).drew, Lib.hid z1, Lib.hid z3, Lib.hid z4, Lib.hid (by have := HM1.out; rw [if_pos rfl]; split at this <;> omega), Lib.hid (fun h => by cases h)⟩
  ·have HSE : Hid (s = n) := Lib.hid (by omega)
   have hns : n ≤ s := by omega
   rw [HSE.out] at HO
   go_wp2_with fail
   all_goals (try rw [Exit.noGoto_ret])
   all_goals go_ret
   all_goals exact ⟨_, out, rfl, Kd.R_lower HR.out HG0.out.size, HO.out.1, HO.out.2, HG0.out.trans (HG.out.mono HG0.out.size)⟩
end Go.Proofs.YtfkejflmhidnaaaGreat.PAll
