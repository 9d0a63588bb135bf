import Derived.Test.YtfkejflmhidnaaaGreatQCrA
import Derived.Test.YtfkejflmhidnaaaGreatQClC
set_option linter.all false
namespace Go.Proofs.YtfkejflmhidnaaaGreat.PAll
open RowKit YtfkejflmhidnaaaGreatW.PrintWords YtfkejflmhidnaaaGreatW.PrintLast YtfkejflmhidnaaaGreatW.PrintMore
open Hp hiding Good
def ofRow (d : List Int) (x : Int) : Option Int := if 0 ≤ rd d x then some (rd d x) else none
set_option maxRecDepth 100000 in
set_option maxHeartbeats 2000000 in
theorem low14_walk (w : World) (n m : Nat) (hn : n ≤ 900) (rA wA : Option Addr) (rc wc : Nat) (k : Int) :
  Calls Tryz.prog 100 #[.agg #[.slice rA n rc, .slice wA m wc], .int .i64 k] w fun r w' => r = .returned (.int .i64 (lowAt n k)) ∧ Below w.heap.size w w' := by
 have HX0 := Lib.hid (HBx.new w (.slice rA n rc) (.slice wA m wc))
 obtain ⟨c0, c1, l0⟩ := HX0.out.cells
 have hn0 : (0 : Int) ≤ (n : Int) := Int.natCast_nonneg _
 by_cases h1 : (n : Int) < k
 ·by_cases h2 : (0 : Int) < (n : Int)
  ·go_enter Tryz.func100, Tryz.ntmps100
   go_wp2_with fail
   all_goals go_ret
   all_goals exact ⟨ret_int (by unfold lowAt clipP mx mn; repeat (first | omega | split)), HX0.out.bel⟩
  ·go_enter Tryz.func100, Tryz.ntmps100
   go_wp2_with fail
   all_goals go_ret
   all_goals exact ⟨ret_int (by unfold lowAt clipP mx mn; repeat (first | omega | split)), HX0.out.bel⟩
 ·by_cases h2 : (0 : Int) < k
  ·go_enter Tryz.func100, Tryz.ntmps100
   go_wp2_with fail
   all_goals go_ret
   all_goals exact ⟨ret_int (by unfold lowAt clipP mx mn; repeat (first | omega | split)), HX0.out.bel⟩
  ·go_enter Tryz.func100, Tryz.ntmps100
   go_wp2_with fail
   all_goals go_ret
   all_goals exact ⟨ret_int (by unfold lowAt clipP mx mn; repeat (first | omega | split)), HX0.out.bel⟩
set_option maxRecDepth 100000 in
set_option maxHeartbeats 4000000 in
theorem rrows_walk (w : World) (n m : Nat) (hn : n ≤ 900) (rank d : List Int) (rA wA dA : Option Addr) (rc wc dc : Nat) (hrl : rank.length = n) (hr : Kd.C (Kd.int .i64) w rA n rank) (hdl : d.length = n) (hd : Kd.C (Kd.int .i64) w dA n d) (low high : Int) :
  Calls Tryz.prog 130 #[.agg #[.slice rA n rc, .slice wA m wc], .slice dA n dc, .int .i64 low, .int .i64 high] w fun r w' => ∃ vr, r = .returned vr ∧ Kd.R k37 37 w' w.heap.size (fun _ => True) vr (rowsP n (ofRow d) (fun u => decide (low ≤ rd rank (u : Int)) && decide (rd rank (u : Int) < high))) ∧ Below w.heap.size w w' := by
 have HX0 := Lib.hid (HBx.new w (.slice rA n rc) (.slice wA m wc))
 have HRF : Hid (∀ W, Below w.heap.size w W → ∀ v : Nat, v < n → ∃ ad, rA = some ad ∧ W.cell? (ad.add v) = some (.int .i64 (rd rank (v : Int)))) := Lib.hid (fun W g v h => rank_cell (rank := rank) (by rw [hrl]; exact hr) g v (by omega) (by omega))
 have HDF : Hid (∀ W, Below w.heap.size w W → ∀ v : Nat, v < n → ∃ ad, dA = some ad ∧ W.cell? (ad.add v) = some (.int .i64 (rd d (v : Int)))) := Lib.hid (fun W g v h => rank_cell (rank := d) (by rw [hdl]; exact hd) g v (by omega) (by omega))
 clear hr hd hrl hdl
 obtain ⟨c0, c1, l0⟩ := HX0.out.cells
 go_enter Tryz.func130, Tryz.ntmps130
 go_wp2_with fail
 generalize w.alloc (.cells #[.slice rA n rc, .slice wA m wc] 31) = W1 at *
 go_loopw [9, 10] (fun v9 v10 wr => ∃ i : Nat, v10 = .int .i64 i ∧ i ≤ n ∧ Hid (Kd.R k37 37 wr W1.heap.size (fun _ => True) v9 (rowsP i (ofRow d) (fun u => decide (low ≤ rd rank (u : Int)) && decide (rd rank (u : Int) < high)))) ∧ Hid (Below W1.heap.size W1 wr)) (fun _ v10 _ => n - (intOf v10).toNat)
 case atStart => exact ⟨0, rfl, by omega, Lib.hid (Kd.R_nil _ _ _ _ _), Lib.hid (Below.refl _ _)⟩
 case round =>
  obtain ⟨i, rfl, hi, HR, HB⟩ := hrel
  have HX := Lib.hid (HX0.out.below HB.out)
  clear c0 c1 l0
  obtain ⟨c0, c1, l0⟩ := HX.out.cells
  by_cases hlt : i < n
  ·obtain ⟨ar, hAr, r0⟩ := HRF.out wr HX.out.bel i hlt
   obtain ⟨ad, hAd, d0⟩ := HDF.out wr HX.out.bel i hlt
   subst hAr hAd
   have hi0 : (0 : Int) ≤ (i : Int) := Int.natCast_nonneg _
   have hi1 : (i : Int) < (n : Int) := by omega
   have hlen := rowsP_len i (ofRow d) (fun u => decide (low ≤ rd rank (u : Int)) && decide (rd rank (u : Int) < high))
   have HNO : Hid (((ofRow d (i : Int)).isSome && (decide (low ≤ rd rank (i : Int)) && decide (rd rank (i : Int) < high))) = false → rowsP (i + 1) (ofRow d) (fun u => decide (low ≤ rd rank (u : Int)) && decide (rd rank (u : Int) < high)) = rowsP i (ofRow d) (fun u => decide (low ≤ rd rank (u : Int)) && decide (rd rank (u : Int) < high))) := Lib.hid (fun h => rowsP_no h)
   have HYES : Hid (((ofRow d (i : Int)).isSome && (decide (low ≤ rd rank (i : Int)) && decide (rd rank (i : Int) < high))) = true → rowsP (i + 1) (ofRow d) (fun u => decide (low ≤ rd rank (u : Int)) && decide (rd rank (u : Int) < high)) = rowsP i (ofRow d) (fun u => decide (low ≤ rd rank (u : Int)) && decide (rd rank (u : Int) < high)) ++ [⟨(i : Int), (ofRow d (i : Int)).getD 0⟩]) := Lib.hid (fun h => rowsP_yes h)
   have HOF : Hid (ofRow d (i : Int) = if 0 ≤ rd d (i : Int) then some (rd d (i : Int)) else none) := Lib.hid rfl
   obtain ⟨l, hl⟩ : ∃ l, rowsP i (ofRow d) (fun u => decide (low ≤ rd rank (u : Int)) && decide (rd rank (u : Int) < high)) = l := ⟨_, rfl⟩
   obtain ⟨l', hl'⟩ : ∃ l', rowsP (i + 1) (ofRow d) (fun u => decide (low ≤ rd rank (u : Int)) && decide (rd rank (u : Int) < high)) = l' := ⟨_, rfl⟩
   have HL' := Lib.hid hl'
   rw [hl] at HR HNO HYES hlen
   rw [hl'] at HNO HYES
   clear hl hl'
   generalize ofRow d (i : Int) = o at *
   generalize rd d (i : Int) = q at *
   generalize rd rank (i : Int) = ka at *
   have hs1 : w.heap.size ≤ W1.heap.size := HX0.out.bel.size
   have hs2 : W1.heap.size ≤ wr.heap.size := HB.out.size
   by_cases h3 : q ≥ 0
   rotate_left
   ·have e7 : decide (q ≥ 0) = false := by simpa using h3
    have HE : Hid (l' = l) := Lib.hid (HNO.out (by rw [HOF.out, if_neg h3]; rfl))
    clear h3
    go_wp2_with fail
    go_roundw
    case measure => simp [intOf]; omega
    case rel => exact ⟨i + 1, by go_num, by omega, Lib.hid (by rw [HL'.out, HE.out]; exact HR.out), HB⟩
   have e7 : decide (q ≥ 0) = true := by simpa using h3
   by_cases h4 : ka ≥ low
   rotate_left
   ·have e8 : decide (ka ≥ low) = false := by simpa using h4
    have HE : Hid (l' = l) := Lib.hid (HNO.out (by
     have : decide (low ≤ ka) = false := e8
     rw [this]; simp))
    clear h3 h4
    go_wp2_with fail
    go_roundw
    case measure => simp [intOf]; omega
    case rel => exact ⟨i + 1, by go_num, by omega, Lib.hid (by rw [HL'.out, HE.out]; exact HR.out), HB⟩
   have e8 : decide (ka ≥ low) = true := by simpa using h4
   by_cases h5 : ka < high
   rotate_left
   ·have e9 : decide (ka < high) = false := by simpa using h5
    have HE : Hid (l' = l) := Lib.hid (HNO.out (by rw [e9]; simp))
    clear h3 h4 h5
    go_wp2_with fail
    go_roundw
    case measure => simp [intOf]; omega
    case rel => exact ⟨i + 1, by go_num, by omega, Lib.hid (by rw [HL'.out, HE.out]; exact HR.out), HB⟩
   have e9 : decide (ka < high) = true := by simpa using h5
   have HE : Hid (l' = l ++ [⟨(i : Int), q⟩]) := Lib.hid (by
    have e : decide (low ≤ ka) = true := e8
    have := HYES.out (by rw [HOF.out, if_pos h3, e, e9]; rfl)
    rw [this, HOF.out, if_pos h3]; rfl)
   clear h3 h4 h5
   go_wp2_with (at_builtin; refine Kd.R_append k37 (w0 := W1) (W := wr) W1.heap.size rfl (.tmp 40) (.tmp 47) 33 37 (.agg #[(.int .i64 0), (.int .i64 0)]) 16 rfl Tryz.underlying33 info37 rfl (by decide) (by omega) _ l (⟨(i : Int), q⟩ : S37) [.int .i64 i, .int .i64 q] (fun _ => True) (fun _ => False) rfl rfl (k37_mkM _ _ _ _) (fun _ h => h.elim) (fun _ _ => trivial) HR.out HB.out hs2 (by omega) ?_; intro v1 w2 hR2 hB2 _ _; have HR2 := Lib.hid hR2; have HB2 := Lib.hid hB2; clear hR2 hB2)
   go_roundw
   case measure => simp [intOf]; omega
   case rel => exact ⟨i + 1, by go_num, by omega, Lib.hid (by rw [HL'.out, HE.out]; exact HR2.out), HB2⟩
  ·have hin : n ≤ i := by omega
   have HIN : Hid (i = n) := Lib.hid (by omega)
   go_wp2_with fail
   go_ret
   rw [HIN.out] at HR
   exact ⟨_, rfl, Kd.R_lower HR.out HX0.out.bel.size, HX.out.bel⟩
theorem rowsP_congr {n : Nat} {f g : Int → Option Int} {P Q : Nat → Bool} (h : ∀ v : Nat, v < n → f (v : Int) = g (v : Int)) (h2 : ∀ v : Nat, v < n → P v = Q v) : rowsP n f P = rowsP n g Q := by
 have cg : ∀ (F G : Nat → Option S37) (l : List Nat), (∀ v ∈ l, F v = G v) → l.filterMap F = l.filterMap G := fun F G l => by
  induction l with
  | nil => intro _; rfl
  | cons a l ih =>
   intro h
   rw [List.filterMap_cons, List.filterMap_cons, h a (by simp), ih (fun v hv => h v (by simp [hv]))]
 unfold rowsP
 refine cg _ _ _ (fun v hv => ?_)
 rw [List.mem_range] at hv
 rw [h v hv, h2 v hv]
def ClimbIs (w : World) (n : Nat) (arg : Value) (cl : Int → Int → Bool → Int → Option Int) : Prop :=
 ∀ W, Below w.heap.size w W → ∀ (v top : Int) (back : Bool), Calls Tryz.prog 104 #[arg, .int .i64 v, .int .i64 top, .bool back] W fun r w' =>
  ∃ (d : List Int) (gb : Nat), r = .returned (.slice (some ⟨gb, 0, none⟩) n n) ∧ Kd.R (Kd.int .i64) 3 w' W.heap.size (fun _ => True) (.slice (some ⟨gb, 0, none⟩) n n) d ∧ d.length = n ∧ (∀ x : Nat, x < n → ofRow d (x : Int) = cl v top back (x : Int)) ∧ Below W.heap.size W w'
theorem ClimbIs.at {w W : World} {n : Nat} {arg : Value} {cl : Int → Int → Bool → Int → Option Int} (h : ClimbIs w n arg cl) (g : Below w.heap.size w W) (v top : Int) (back : Bool) : Calls Tryz.prog 104 #[arg, .int .i64 v, .int .i64 top, .bool back] W fun r w' =>
  ∃ (d : List Int) (gb : Nat), r = .returned (.slice (some ⟨gb, 0, none⟩) n n) ∧ Kd.R (Kd.int .i64) 3 w' W.heap.size (fun _ => True) (.slice (some ⟨gb, 0, none⟩) n n) d ∧ d.length = n ∧ (∀ x : Nat, x < n → ofRow d (x : Int) = cl v top back (x : Int)) ∧ Below W.heap.size W w' := h W g v top back
theorem ClimbIs.later {w w1 : World} {n : Nat} {arg : Value} {cl : Int → Int → Bool → Int → Option Int} (h : ClimbIs w n arg cl) (g : Below w.heap.size w w1) : ClimbIs w1 n arg cl := fun W g1 => h W (g.trans (g1.mono g.size))
set_option maxRecDepth 100000 in
set_option maxHeartbeats 4000000 in
theorem raw14_walk (w : World) (n m : Nat) (hn : n ≤ 900) (rank : List Int) (rA wA : Option Addr) (rc wc : Nat) (hrl : rank.length = n) (hr : Kd.C (Kd.int .i64) w rA n rank) (cl : Int → Int → Bool → Int → Option Int) (hcl : ClimbIs w n (.agg #[.slice rA n rc, .slice wA m wc]) cl) (v k : Int) (back : Bool) :
  Calls Tryz.prog 103 #[.agg #[.slice rA n rc, .slice wA m wc], .int .i64 v, .int .i64 k, .bool back] w fun r w' => ∃ vr, r = .returned vr ∧ Kd.R k37 37 w' w.heap.size (fun _ => True) vr (rowsP n (cl v (lowAt n k) back) (fun u => decide (lowAt n k ≤ rd rank (u : Int)) && decide (rd rank (u : Int) < n))) ∧ Below w.heap.size w w' := by
 have HLW : Hid (∀ W, Calls Tryz.prog 100 #[.agg #[.slice rA n rc, .slice wA m wc], .int .i64 k] W fun r w' => r = .returned (.int .i64 (lowAt n k)) ∧ Below W.heap.size W w') := Lib.hid (fun W => low14_walk W n m hn rA wA rc wc k)
 have HRW : Hid (∀ W, Below w.heap.size w W → ∀ (d : List Int) (dA : Option Addr) (dc : Nat), d.length = n → Kd.C (Kd.int .i64) W dA n d → ∀ low high : Int, Calls Tryz.prog 130 #[.agg #[.slice rA n rc, .slice wA m wc], .slice dA n dc, .int .i64 low, .int .i64 high] W fun r w' => ∃ vr, r = .returned vr ∧ Kd.R k37 37 w' W.heap.size (fun _ => True) vr (rowsP n (ofRow d) (fun u => decide (low ≤ rd rank (u : Int)) && decide (rd rank (u : Int) < high))) ∧ Below W.heap.size W w') := Lib.hid (fun W g d dA dc hdl hd low high => rrows_walk W n m hn rank d rA wA dA rc wc dc hrl (Kd.C_below hr g) hdl hd low high)
 have HCL := Lib.hid hcl
 have HX0 := Lib.hid (HBx.new w (.slice rA n rc) (.slice wA m wc))
 clear hr hcl hrl
 generalize lowAt n k = lo at *
 obtain ⟨c0, c1, l0⟩ := HX0.out.cells
 go_enter Tryz.func103, Tryz.ntmps103
 go_wp2_with (first | (go_at_call 100; refine (HLW.out _).mono ?_; rintro e w2 ⟨rfl, g⟩; have HX2 := Lib.hid (HX0.out.below g); clear g c0 c1 l0; obtain ⟨c0, c1, l0⟩ := HX2.out.cells))
 refine start_ (n := 12) (S := fun w' => w'.cell? ⟨w.heap.size, 0, none⟩ = some (.slice rA n rc) ∧ w'.cell? ⟨w.heap.size, 1, none⟩ = some (.slice wA m wc)) (ds := []) (bA_ 12 0) (by kernel_rfl) rfl rfl ⟨c0, c1⟩ (fun hHeld => ?_)
 refine p2_ 2 15 (bA_ 12 4) ?_
 refine p2_ 3 16 (bA_ 12 12) ?_
 refine p2_ 4 17 (bA_ 12 28) ?_
 refine p2_ 6 19 (bA_ 12 92) ?_
 refine p2_ 7 20 (bA_ 12 220) ?_
 refine t2_ 0 13 (bA_ 12 221) hHeld ?_ (hy := by rintro w' ⟨s0, s1⟩; go_simp; with_reducible rfl)
 refine t2_ 1 14 (bA_ 12 223) hHeld ?_ (hy := by rintro w' ⟨s0, s1⟩; go_simp; with_reducible rfl)
 refine t2_ 8 21 (bA_ 12 479) hHeld ?_ (hy := by rintro w' ⟨s0, s1⟩; go_simp; with_reducible rfl)
 refine p2_ 9 22 (bA_ 12 991) ?_
 refine o2_ 5 18 (bA_ 12 1023) (fun K hK => ?_)
 refine g2_ Tryz.func104 #[.agg #[.slice rA n rc, .slice wA m wc], .int .i64 v, .int .i64 lo, .bool back] ?_
 with_reducible refine (HCL.out.at HX2.out.bel.drew v lo back).mono ?_
 rintro e w3 ⟨d, gb, rfl, hR3, hdl, hdc, g3⟩
 refine ⟨_, rfl, ?_⟩
 have HX3 := Lib.hid ((HX2.out.below (Below.refl _ _).drew).below g3)
 have HC3 := Lib.hid (Kd.R_reads' hR3).2.2
 rw [hdl] at HC3
 have HDC := Lib.hid hdc
 clear hR3 hdc g3
 refine hK.out _ _ ⟨HX3.out.cells.1, HX3.out.cells.2.1⟩ (fun hHeld => ?_)
 clear hK K
 refine n2_ 18 ?_
 refine o2_ 10 23 (bA_ 12 2047) (fun K hK => ?_)
 refine g2_ Tryz.func130 #[.agg #[.slice rA n rc, .slice wA m wc], .slice (some ⟨gb, 0, none⟩) n n, .int .i64 lo, .int .i64 n] ?_
 with_reducible refine (HRW.out _ HX3.out.bel d _ _ hdl HC3.out _ _).mono ?_
 rintro e w4 ⟨vr, rfl, hR4, g4⟩
 refine ⟨_, rfl, ?_⟩
 have HX4 := Lib.hid (HX3.out.below g4)
 have HX4s := Lib.hid HX3.out.bel.size
 have HR4 := Lib.hid hR4
 have HEQ : Hid (rowsP n (ofRow d) (fun u => decide (lo ≤ rd rank (u : Int)) && decide (rd rank (u : Int) < (n : Int))) = rowsP n (cl v lo back) (fun u => decide (lo ≤ rd rank (u : Int)) && decide (rd rank (u : Int) < (n : Int)))) := Lib.hid (rowsP_congr HDC.out (fun _ _ => rfl))
 clear hR4 g4
 refine hK.out _ _ ⟨HX4.out.cells.1, HX4.out.cells.2.1⟩ (fun hHeld => ?_)
 clear hK K
 refine n2_ 23 ?_
 refine p2_ 11 8 (bA_ 12 4095) ?_
 refine done_ (by kernel_rfl) ?_
 all_goals (try go_wp2_with fail)
 all_goals go_ret
 all_goals exact ⟨vr, rfl, Kd.R_lower (by rw [← HEQ.out]; exact HR4.out) HX4s.out, HX4.out.bel⟩
set_option maxRecDepth 100000 in
set_option maxHeartbeats 4000000 in
theorem above11_walk (w : World) (n m : Nat) (hn : n ≤ 900) (rank : List Int) (rA wA : Option Addr) (rc wc : Nat) (hrl : rank.length = n) (hr : Kd.C (Kd.int .i64) w rA n rank) (cl : Int → Int → Bool → Int → Option Int) (hcl : ClimbIs w n (.agg #[.slice rA n rc, .slice wA m wc]) cl) (v : Int) (back : Bool) :
  Calls Tryz.prog 164 #[.agg #[.slice rA n rc, .slice wA m wc], .int .i64 v, .bool back] w fun r w' => ∃ vr, r = .returned vr ∧ Kd.R k37 37 w' w.heap.size (fun _ => True) vr (rowsP n (cl v n back) (fun u => decide (0 ≤ rd rank (u : Int)) && decide (rd rank (u : Int) < n))) ∧ Below w.heap.size w w' := by
 have HRW : Hid (∀ W, Below w.heap.size w W → ∀ (d : List Int) (dA : Option Addr) (dc : Nat), d.length = n → Kd.C (Kd.int .i64) W dA n d → ∀ low high : Int, Calls Tryz.prog 130 #[.agg #[.slice rA n rc, .slice wA m wc], .slice dA n dc, .int .i64 low, .int .i64 high] W fun r w' => ∃ vr, r = .returned vr ∧ Kd.R k37 37 w' W.heap.size (fun _ => True) vr (rowsP n (ofRow d) (fun u => decide (low ≤ rd rank (u : Int)) && decide (rd rank (u : Int) < high))) ∧ Below W.heap.size W w') := Lib.hid (fun W g d dA dc hdl hd low high => rrows_walk W n m hn rank d rA wA dA rc wc dc hrl (Kd.C_below hr g) hdl hd low high)
 have HCL := Lib.hid hcl
 have HX2 := Lib.hid (HBx.new w (.slice rA n rc) (.slice wA m wc))
 clear hr hcl hrl
 obtain ⟨c0, c1, l0⟩ := HX2.out.cells
 go_enter Tryz.func164, Tryz.ntmps164
 go_wp2_with fail
 refine start_ (n := 9) (S := fun w' => w'.cell? ⟨w.heap.size, 0, none⟩ = some (.slice rA n rc) ∧ w'.cell? ⟨w.heap.size, 1, none⟩ = some (.slice wA m wc)) (ds := []) (bA_ 9 0) (by kernel_rfl) rfl rfl ⟨c0, c1⟩ (fun hHeld => ?_)
 refine p2_ 2 13 (bA_ 9 4) ?_
 refine p2_ 3 14 (bA_ 9 12) ?_
 refine p2_ 4 15 (bA_ 9 28) ?_
 refine p2_ 6 17 (bA_ 9 92) ?_
 refine t2_ 0 11 (bA_ 9 93) hHeld ?_ (hy := by rintro w' ⟨s0, s1⟩; go_simp; with_reducible rfl)
 refine t2_ 1 12 (bA_ 9 95) hHeld ?_ (hy := by rintro w' ⟨s0, s1⟩; go_simp; with_reducible rfl)
 refine o2_ 5 16 (bA_ 9 127) (fun K hK => ?_)
 refine g2_ Tryz.func104 #[.agg #[.slice rA n rc, .slice wA m wc], .int .i64 v, .int .i64 n, .bool back] ?_
 with_reducible refine (HCL.out.at HX2.out.bel.drew v n back).mono ?_
 rintro e w3 ⟨d, gb, rfl, hR3, hdl, hdc, g3⟩
 refine ⟨_, rfl, ?_⟩
 have HX3 := Lib.hid ((HX2.out.below (Below.refl _ _).drew).below g3)
 have HC3 := Lib.hid (Kd.R_reads' hR3).2.2
 rw [hdl] at HC3
 have HDC := Lib.hid hdc
 clear hR3 hdc g3
 refine hK.out _ _ ⟨HX3.out.cells.1, HX3.out.cells.2.1⟩ (fun hHeld => ?_)
 clear hK K
 refine n2_ 16 ?_
 refine o2_ 7 18 (bA_ 9 255) (fun K hK => ?_)
 refine g2_ Tryz.func130 #[.agg #[.slice rA n rc, .slice wA m wc], .slice (some ⟨gb, 0, none⟩) n n, .int .i64 0, .int .i64 n] ?_
 with_reducible refine (HRW.out _ HX3.out.bel d _ _ hdl HC3.out _ _).mono ?_
 rintro e w4 ⟨vr, rfl, hR4, g4⟩
 refine ⟨_, rfl, ?_⟩
 have HX4 := Lib.hid (HX3.out.below g4)
 have HX4s := Lib.hid HX3.out.bel.size
 have HR4 := Lib.hid hR4
 have HEQ : Hid (rowsP n (ofRow d) (fun u => decide (0 ≤ rd rank (u : Int)) && decide (rd rank (u : Int) < (n : Int))) = rowsP n (cl v n back) (fun u => decide (0 ≤ rd rank (u : Int)) && decide (rd rank (u : Int) < (n : Int)))) := Lib.hid (rowsP_congr HDC.out (fun _ _ => rfl))
 clear hR4 g4
 refine hK.out _ _ ⟨HX4.out.cells.1, HX4.out.cells.2.1⟩ (fun hHeld => ?_)
 clear hK K
 refine n2_ 18 ?_
 refine p2_ 8 6 (bA_ 9 511) ?_
 refine done_ (by kernel_rfl) ?_
 all_goals (try go_wp2_with fail)
 all_goals go_ret
 all_goals exact ⟨vr, rfl, Kd.R_lower (by rw [← HEQ.out]; exact HR4.out) HX4s.out, HX4.out.bel⟩
def SeenM (nb i j p q : Nat) : Prop := (p < i ∧ q < nb) ∨ (p = i ∧ q < j)
def sumM (a b : List S37) (p q : Nat) : Int := (rd_T37 a (p : Int)).f1 + (rd_T37 b (q : Int)).f1
def ComM (a b : List S37) (p q : Nat) : Prop := (rd_T37 a (p : Int)).f0 = (rd_T37 b (q : Int)).f0
def MInv (a b : List S37) (na nb i j : Nat) (best at' : Int) : Prop :=
 ((at' = -1 ∧ best = -1) ∧ ∀ p q, p < na → SeenM nb i j p q → ¬ ComM a b p q) ∨
 ((0 ≤ at' ∧ 0 ≤ best) ∧ (∃ p q, p < na ∧ q < nb ∧ ComM a b p q ∧ best = sumM a b p q) ∧ ∀ p q, p < na → SeenM nb i j p q → ComM a b p q → best ≤ sumM a b p q)
theorem MInv.row {a b : List S37} {na nb i : Nat} {best at' : Int} (h : MInv a b na nb i nb best at') : MInv a b na nb (i + 1) 0 best at' := by
 have key : ∀ p q, SeenM nb (i + 1) 0 p q → SeenM nb i nb p q := fun p q hs => by
  unfold SeenM at hs ⊢
  omega
 rcases h with ⟨h0, h1⟩ | ⟨h0, h1, h2⟩
 ·exact .inl ⟨h0, fun p q hp hs => h1 p q hp (key p q hs)⟩
 ·exact .inr ⟨h0, h1, fun p q hp hs => h2 p q hp (key p q hs)⟩
theorem MInv.no {a b : List S37} {na nb i j : Nat} {best at' : Int} (h : MInv a b na nb i j best at') (hc : ComM a b i j → 0 ≤ at' ∧ best ≤ sumM a b i j) : MInv a b na nb i (j + 1) best at' := by
 have key : ∀ p q, SeenM nb i (j + 1) p q → SeenM nb i j p q ∨ (p = i ∧ q = j) := fun p q hs => by
  unfold SeenM at hs ⊢
  omega
 rcases h with ⟨h0, h1⟩ | ⟨h0, h1, h2⟩
 ·refine .inl ⟨h0, fun p q hp hs hcm => ?_⟩
  rcases key p q hs with h | ⟨rfl, rfl⟩
  ·exact h1 p q hp h hcm
  ·have := (hc hcm).1; omega
 ·refine .inr ⟨h0, h1, fun p q hp hs hcm => ?_⟩
  rcases key p q hs with h | ⟨rfl, rfl⟩
  ·exact h2 p q hp h hcm
  ·exact (hc hcm).2
theorem MInv.yes {a b : List S37} {na nb i j : Nat} {best at' : Int} (h : MInv a b na nb i j best at') (hi : i < na) (hj : j < nb) (hc : ComM a b i j) (h0 : 0 ≤ (rd_T37 a (i : Int)).f0) (hs0 : 0 ≤ sumM a b i j) (hb : at' < 0 ∨ sumM a b i j ≤ best) : MInv a b na nb i (j + 1) (sumM a b i j) (rd_T37 a (i : Int)).f0 := by
 have key : ∀ p q, SeenM nb i (j + 1) p q → SeenM nb i j p q ∨ (p = i ∧ q = j) := fun p q hs => by
  unfold SeenM at hs ⊢
  omega
 refine .inr ⟨⟨h0, hs0⟩, ⟨i, j, hi, hj, hc, rfl⟩, fun p q hp hs hcm => ?_⟩
 rcases key p q hs with h' | ⟨rfl, rfl⟩
 ·rcases h with ⟨h1, h2⟩ | ⟨h1, h2, h3⟩
  ·exact absurd hcm (h2 p q hp h')
  ·have := h3 p q hp h' hcm
   omega
 ·exact Int.le_refl _
def MRow (l : List S37) : Prop := ∀ x ∈ l, 0 ≤ x.f0 ∧ 0 ≤ x.f1 ∧ x.f1 ≤ 1152921504606846976
theorem rd39_mem (l : List S37) (i : Nat) (h : i < l.length) : rd_T37 l (i : Int) ∈ l := by
 have e : rd_T37 l (i : Int) = l[i] := by simp [rd_T37, List.getD, h]
 rw [e]; exact List.getElem_mem _
def MPost (w : World) (a b : List S37) (r : Ending) (w' : World) : Prop := ∃ x y : Int, r = .returned (.tuple #[.int .i64 x, .int .i64 y]) ∧ MInv a b a.length b.length a.length 0 x y ∧ Below w.heap.size w w'
set_option maxRecDepth 100000 in
set_option maxHeartbeats 8000000 in
theorem meet11_walk (w : World) (a b : List S37) (aA bA : Option Addr) (ac bc : Nat) (ha : Kd.C k37 w aA a.length a) (hb : Kd.C k37 w bA b.length b) (hal : a.length ≤ 900) (hbl : b.length ≤ 900) (hma : MRow a) (hmb : MRow b) :
  Calls Tryz.prog 163 #[.slice aA a.length ac, .slice bA b.length bc] w fun r w' => MPost w a b r w' := by
 have HA := Lib.hid ha
 have HB := Lib.hid hb
 have HMA : Hid (∀ i : Nat, i < a.length → 0 ≤ (rd_T37 a (i : Int)).f0 ∧ 0 ≤ (rd_T37 a (i : Int)).f1 ∧ (rd_T37 a (i : Int)).f1 ≤ 1152921504606846976) := Lib.hid (fun i h => hma _ (rd39_mem a i h))
 have HMB : Hid (∀ i : Nat, i < b.length → 0 ≤ (rd_T37 b (i : Int)).f0 ∧ 0 ≤ (rd_T37 b (i : Int)).f1 ∧ (rd_T37 b (i : Int)).f1 ≤ 1152921504606846976) := Lib.hid (fun i h => hmb _ (rd39_mem b i h))
 have HST : Hid (MInv a b a.length b.length 0 0 (-1) (-1)) := Lib.hid (.inl ⟨⟨rfl, rfl⟩, fun p q _ hs => by unfold SeenM at hs; omega⟩)
 have HPO : Hid (∀ r w', (∃ x y : Int, r = .returned (.tuple #[.int .i64 x, .int .i64 y]) ∧ MInv a b a.length b.length a.length 0 x y ∧ Below w.heap.size w w') → MPost w a b r w') := Lib.hid (fun _ _ h => h)
 obtain ⟨na, hna⟩ : ∃ na, a.length = na := ⟨_, rfl⟩
 obtain ⟨nb, hnb⟩ : ∃ nb, b.length = nb := ⟨_, rfl⟩
 rw [hna, hnb] at HST HPO
 rw [hna] at HA HMA hal ⊢
 rw [hnb] at HB HMB hbl ⊢
 clear ha hb hma hmb hna hnb
 go_enter Tryz.func163, Tryz.ntmps163
 go_wp2_with fail
 go_loopw [6, 7, 8] (fun v6 v7 v8 wr => ∃ (i : Nat) (x y : Int), v6 = .int .i64 x ∧ v7 = .int .i64 y ∧ v8 = .int .i64 i ∧ i ≤ na ∧ Hid (MInv a b na nb i 0 x y) ∧ Hid (Below w.heap.size w wr)) (fun _ _ v8 _ => na - (intOf v8).toNat)
 case atStart => exact ⟨0, -1, -1, rfl, rfl, rfl, by omega, HST, Lib.hid (Below.refl _ _)⟩
 case round =>
  obtain ⟨i, x, y, rfl, rfl, rfl, hi, HM, HG⟩ := hrel
  by_cases hin : i < na
  rotate_left
  ·have hle : na ≤ i := by omega
   have HIN : Hid (i = na) := Lib.hid (by omega)
   go_wp2_with fail
   go_ret2
   exact HPO.out _ _ ⟨x, y, rfl, (by
    have h := HM.out
    rw [HIN.out] at h
    exact h), HG.out⟩
  have hi0 : (0 : Int) ≤ (i : Int) := Int.natCast_nonneg _
  have hi1 : (i : Int) < (na : Int) := by omega
  go_wp2_with fail
  go_loopw [6, 7, 9] (fun v6 v7 v9 wr => ∃ (j : Nat) (x y : Int), v6 = .int .i64 x ∧ v7 = .int .i64 y ∧ v9 = .int .i64 j ∧ j ≤ nb ∧ Hid (MInv a b na nb i j x y) ∧ Hid (Below w.heap.size w wr)) (fun _ _ v9 _ => nb - (intOf v9).toNat)
  case atStart => exact ⟨0, x, y, rfl, rfl, rfl, by omega, HM, HG⟩
  case round =>
   obtain ⟨j, x, y, rfl, rfl, rfl, hj, HMj, HGj⟩ := hrel
   clear HM HG
   by_cases hjn : j < nb
   rotate_left
   ·have hle : nb ≤ j := by omega
    have HJN : Hid (j = nb) := Lib.hid (by omega)
    go_wp2_with fail
    go_roundw
    case measure => simp [intOf]; omega
    case rel => exact ⟨i + 1, x, y, rfl, rfl, by go_num, by omega, Lib.hid (MInv.row (by rw [HJN.out] at HMj; exact HMj.out)), HGj⟩
   have hj0 : (0 : Int) ≤ (j : Int) := Int.natCast_nonneg _
   have hj1 : (j : Int) < (nb : Int) := by omega
   obtain ⟨aa, hAa, a0, a1⟩ := at_T37 (Kd.C_below HA.out HGj.out) (i : Int) (by omega) (by omega)
   obtain ⟨ab, hAb, b0, b1⟩ := at_T37 (Kd.C_below HB.out HGj.out) (j : Int) (by omega) (by omega)
   subst hAa hAb
   simp only [Int.toNat_natCast] at a0 a1 b0 b1
   obtain ⟨ma0, ma1, ma2⟩ := HMA.out i hin
   obtain ⟨mb0, mb1, mb2⟩ := HMB.out j hjn
   have HNO : Hid ((ComM a b i j → 0 ≤ y ∧ x ≤ sumM a b i j) → MInv a b na nb i (j + 1) x y) := Lib.hid (fun h => HMj.out.no h)
   have HYES : Hid (ComM a b i j → (y < 0 ∨ sumM a b i j ≤ x) → MInv a b na nb i (j + 1) (sumM a b i j) (rd_T37 a (i : Int)).f0) := Lib.hid (fun h1 h2 => HMj.out.yes hin hjn h1 ma0 (by unfold sumM; omega) h2)
   have HCM : Hid (ComM a b i j = ((rd_T37 a (i : Int)).f0 = (rd_T37 b (j : Int)).f0)) := Lib.hid rfl
   have HSM : Hid (sumM a b i j = (rd_T37 a (i : Int)).f1 + (rd_T37 b (j : Int)).f1) := Lib.hid rfl
   generalize sumM a b i j = sm at *
   generalize ComM a b i j = cm at *
   generalize (rd_T37 a (i : Int)).f0 = av at *
   generalize (rd_T37 a (i : Int)).f1 = ae at *
   generalize (rd_T37 b (j : Int)).f0 = bv at *
   generalize (rd_T37 b (j : Int)).f1 = be at *
   have hwrap : IntKind.i64.wrap (ae + be) = ae + be := i64w rfl (by omega) (by omega)
   obtain ⟨B, hB⟩ : ∃ B, decide (av = bv ∧ (y < 0 ∨ ae + be < x ∨ (ae + be = x ∧ av > y))) = B := ⟨_, rfl⟩
   have HNO2 : Hid (B = false → MInv a b na nb i (j + 1) x y) := Lib.hid (fun e => HNO.out (fun hc => by
    rw [e] at hB
    have hn := of_decide_eq_false hB
    rw [HCM.out] at hc
    rw [HSM.out]
    refine ⟨?_, ?_⟩
    ·apply Classical.byContradiction; intro h; exact hn ⟨hc, .inl (by omega)⟩
    ·apply Classical.byContradiction; intro h; exact hn ⟨hc, .inr (.inl (by omega))⟩))
   have HYES2 : Hid (B = true → MInv a b na nb i (j + 1) (ae + be) av) := Lib.hid (fun e => by
    rw [e] at hB
    obtain ⟨h1, h2⟩ := of_decide_eq_true hB
    have := HYES.out (by rw [HCM.out]; exact h1) (by rw [HSM.out]; omega)
    rw [HSM.out] at this
    exact this)
   clear HNO HYES HCM HSM ma0 ma1 ma2 mb0 mb1 mb2
   go_upto_region 9 with fail
   go_cut [75] from 22 to 75 (fun v75 wx => v75 = .bool B ∧ wx = wr.drew)
   case first =>
    clear HA HB HMA HMB HST HPO HMj HGj HNO2 HYES2
    by_cases h1 : av = bv
    rotate_left
    ·have e1 : (av == bv) = false := by simpa using h1
     have HV : Hid (B = false) := Lib.hid (by rw [← hB]; exact decide_eq_false (fun ⟨h, _⟩ => h1 h))
     clear hB
     go_region
     all_goals (try go_wp2_with fail)
     all_goals go_meet
     all_goals exact ⟨by rw [HV.out], rfl⟩
    have e1 : (av == bv) = true := by simpa using h1
    by_cases h2 : y < 0
    ·have e2 : decide (y < 0) = true := by simpa using h2
     have HV : Hid (B = true) := Lib.hid (by rw [← hB]; exact decide_eq_true ⟨h1, .inl h2⟩)
     clear hB h2 h1
     go_region
     all_goals (try go_wp2_with fail)
     all_goals go_meet
     all_goals exact ⟨by rw [HV.out], rfl⟩
    have e2 : decide (y < 0) = false := by simpa using h2
    by_cases h3 : ae + be < x
    ·have e3 : decide (ae + be < x) = true := by simpa using h3
     have HV : Hid (B = true) := Lib.hid (by rw [← hB]; exact decide_eq_true ⟨h1, .inr (.inl h3)⟩)
     clear hB h2 h3 h1
     go_region
     all_goals (try go_wp2_with fail)
     all_goals go_meet
     all_goals exact ⟨by rw [HV.out], rfl⟩
    have e3 : decide (ae + be < x) = false := by simpa using h3
    by_cases h4 : ae + be = x
    rotate_left
    ·have e4 : (ae + be == x) = false := by simpa using h4
     have HV : Hid (B = false) := Lib.hid (by rw [← hB]; exact decide_eq_false (fun ⟨_, h⟩ => by rcases h with h | h | h <;> omega))
     clear hB h2 h3 h1 h4
     go_region
     all_goals (try go_wp2_with fail)
     all_goals go_meet
     all_goals exact ⟨by rw [HV.out], rfl⟩
    have e4 : (ae + be == x) = true := by simpa using h4
    by_cases h5 : av > y
    ·have e5 : decide (av > y) = true := by simpa using h5
     have HV : Hid (B = true) := Lib.hid (by rw [← hB]; exact decide_eq_true ⟨h1, .inr (.inr ⟨h4, h5⟩)⟩)
     clear hB h2 h3 h1 h4 h5
     go_region
     all_goals (try go_wp2_with fail)
     all_goals go_meet
     all_goals exact ⟨by rw [HV.out], rfl⟩
    ·have e5 : decide (av > y) = false := by simpa using h5
     have HV : Hid (B = false) := Lib.hid (by rw [← hB]; exact decide_eq_false (fun ⟨_, h⟩ => by rcases h with h | h | h <;> omega))
     clear hB h2 h3 h1 h4 h5
     go_region
     all_goals (try go_wp2_with fail)
     all_goals go_meet
     all_goals exact ⟨by rw [HV.out], rfl⟩
   case rest =>
   obtain ⟨rfl, rfl⟩ := hcut
   cases B with
   | false =>
    have HNN := Lib.hid (HNO2.out rfl)
    clear HNO2 HYES2 a0 a1 b0 b1
    go_wp2_with fail
    go_roundw
    case measure => simp [intOf]; omega
    case rel => exact ⟨j + 1, x, y, rfl, rfl, by go_num, by omega, HNN, Lib.hid HGj.out.drew⟩
   | true =>
    have HYY := Lib.hid (HYES2.out rfl)
    clear HNO2 HYES2 hB
    have HGd : Hid (Below w.heap.size w wr.drew) := Lib.hid HGj.out.drew
    have HGd2 : Hid (Below w.heap.size w wr.drew.drew) := Lib.hid HGd.out.drew
    have y0 : wr.drew.cell? (aa.add (i * 2)) = some (.int .i64 av) := a0
    have y1 : wr.drew.cell? ⟨(aa.add (i * 2)).block, (aa.add (i * 2)).off + 1, none⟩ = some (.int .i64 ae) := a1
    have z0 : wr.drew.cell? (ab.add (j * 2)) = some (.int .i64 bv) := b0
    have z1 : wr.drew.cell? ⟨(ab.add (j * 2)).block, (ab.add (j * 2)).off + 1, none⟩ = some (.int .i64 be) := b1
    clear a0 a1 b0 b1
    generalize wr.drew = wq at *
    go_wp2_with fail
    go_region
    all_goals (try go_wp2_with fail)
    go_roundw
    case measure => simp [intOf]; omega
    case rel => exact ⟨j + 1, ae + be, av, rfl, rfl, by go_num, by omega, HYY, HGd2⟩
def AboveIs (w : World) (arg : Value) (L : Int → Bool → List S37) : Prop :=
 ∀ W, Below w.heap.size w W → ∀ (v : Int) (back : Bool), Calls Tryz.prog 164 #[arg, .int .i64 v, .bool back] W fun r w' => ∃ vr, r = .returned vr ∧ Kd.R k37 37 w' W.heap.size (fun _ => True) vr (L v back) ∧ Below W.heap.size W w'
theorem AboveIs.at {w W : World} {arg : Value} {L : Int → Bool → List S37} (h : AboveIs w arg L) (g : Below w.heap.size w W) (v : Int) (back : Bool) :
  Calls Tryz.prog 164 #[arg, .int .i64 v, .bool back] W fun r w' => ∃ vr, r = .returned vr ∧ Kd.R k37 37 w' W.heap.size (fun _ => True) vr (L v back) ∧ Below W.heap.size W w' := h W g v back
def FarIs (w : World) (arg : Value) (fr : Int → Int → Int) : Prop :=
 ∀ W, Below w.heap.size w W → ∀ (s t : Int), Calls Tryz.prog 128 #[arg, .int .i64 s, .int .i64 t] W fun r w' => r = .returned (.int .i64 (fr s t)) ∧ Below W.heap.size W w'
theorem FarIs.at {w W : World} {arg : Value} {fr : Int → Int → Int} (h : FarIs w arg fr) (g : Below w.heap.size w W) (s t : Int) : Calls Tryz.prog 128 #[arg, .int .i64 s, .int .i64 t] W fun r w' => r = .returned (.int .i64 (fr s t)) ∧ Below W.heap.size W w' := h W g s t
set_option maxRecDepth 100000 in
set_option maxHeartbeats 4000000 in
theorem where12_walk (w : World) (n m : Nat) (rA wA : Option Addr) (rc wc : Nat) (L : Int → Bool → List S37) (hL : AboveIs w (.agg #[.slice rA n rc, .slice wA m wc]) L) (hll : ∀ v b, (L v b).length ≤ 900) (hm : ∀ v b, MRow (L v b)) (s t : Int) :
  Calls Tryz.prog 153 #[.agg #[.slice rA n rc, .slice wA m wc], .int .i64 s, .int .i64 t] w fun r w' => MPost w (L s false) (L t true) r w' := by
 have HL := Lib.hid hL
 have HX2 := Lib.hid (HBx.new w (.slice rA n rc) (.slice wA m wc))
 have HM : Hid (∀ (W : World) (A1 A2 : Option Addr) (k1 k2 : Nat), Kd.C k37 W A1 (L s false).length (L s false) → Kd.C k37 W A2 (L t true).length (L t true) → Calls Tryz.prog 163 #[.slice A1 (L s false).length k1, .slice A2 (L t true).length k2] W fun r w' => MPost W (L s false) (L t true) r w') := Lib.hid (fun W A1 A2 k1 k2 h1 h2 => meet11_walk W _ _ A1 A2 k1 k2 h1 h2 (hll _ _) (hll _ _) (hm _ _) (hm _ _))
 have HPO : Hid (∀ r w', (∃ x y : Int, r = .returned (.tuple #[.int .i64 x, .int .i64 y]) ∧ MInv (L s false) (L t true) (L s false).length (L t true).length (L s false).length 0 x y ∧ Below w.heap.size w w') → MPost w (L s false) (L t true) r w') := Lib.hid (fun _ _ h => h)
 have HL1 : Hid (∀ W, Below w.heap.size w W → Calls Tryz.prog 164 #[.agg #[.slice rA n rc, .slice wA m wc], .int .i64 s, .bool false] W fun r w' => ∃ vr, r = .returned vr ∧ Kd.R k37 37 w' W.heap.size (fun _ => True) vr (L s false) ∧ Below W.heap.size W w') := Lib.hid (fun W g => hL.at g s false)
 have HL2 : Hid (∀ W, Below w.heap.size w W → Calls Tryz.prog 164 #[.agg #[.slice rA n rc, .slice wA m wc], .int .i64 t, .bool true] W fun r w' => ∃ vr, r = .returned vr ∧ Kd.R k37 37 w' W.heap.size (fun _ => True) vr (L t true) ∧ Below W.heap.size W w') := Lib.hid (fun W g => hL.at g t true)
 clear hL hll hm HL
 generalize L s false = a at *
 generalize L t true = b at *
 obtain ⟨na, hna⟩ : ∃ na, a.length = na := ⟨_, rfl⟩
 obtain ⟨nb, hnb⟩ : ∃ nb, b.length = nb := ⟨_, rfl⟩
 have HNA := Lib.hid hna
 have HNB := Lib.hid hnb
 rw [hna, hnb] at HM HPO
 clear hna hnb
 obtain ⟨c0, c1, l0⟩ := HX2.out.cells
 go_enter Tryz.func153, Tryz.ntmps153
 go_wp2_with fail
 refine start_ (n := 11) (S := fun w' => w'.cell? ⟨w.heap.size, 0, none⟩ = some (.slice rA n rc) ∧ w'.cell? ⟨w.heap.size, 1, none⟩ = some (.slice wA m wc)) (ds := []) (bA_ 11 0) (by kernel_rfl) rfl rfl ⟨c0, c1⟩ (fun hHeld => ?_)
 refine p2_ 1 9 (bA_ 11 2) ?_
 refine p2_ 4 12 (bA_ 11 18) ?_
 refine t2_ 0 8 (bA_ 11 19) hHeld ?_ (hy := by rintro w' ⟨s0, s1⟩; go_simp; with_reducible rfl)
 refine t2_ 3 11 (bA_ 11 27) hHeld ?_ (hy := by rintro w' ⟨s0, s1⟩; go_simp; with_reducible rfl)
 refine o2_ 2 10 (bA_ 11 31) (fun K hK => ?_)
 refine g2_ Tryz.func164 #[.agg #[.slice rA n rc, .slice wA m wc], .int .i64 s, .bool false] ?_
 with_reducible refine (HL1.out _ HX2.out.bel.drew).mono ?_
 rintro e w3 ⟨v1, rfl, hR3, g3⟩
 refine ⟨_, rfl, ?_⟩
 have HX3 := Lib.hid ((HX2.out.below (Below.refl _ _).drew).below g3)
 obtain ⟨A1, k1, rfl, hk1, hC1⟩ := Kd.R_reads hR3
 have HC1 := Lib.hid hC1
 clear hR3 hC1 g3
 refine hK.out _ _ ⟨HX3.out.cells.1, HX3.out.cells.2.1⟩ (fun hHeld => ?_)
 clear hK K
 refine n2_ 10 ?_
 refine o2_ 5 13 (bA_ 11 63) (fun K hK => ?_)
 refine g2_ Tryz.func164 #[.agg #[.slice rA n rc, .slice wA m wc], .int .i64 t, .bool true] ?_
 with_reducible refine (HL2.out _ HX3.out.bel).mono ?_
 rintro e w4 ⟨v2, rfl, hR4, g4⟩
 refine ⟨_, rfl, ?_⟩
 have HX4 := Lib.hid (HX3.out.below g4)
 obtain ⟨A2, k2, rfl, hk2, hC2⟩ := Kd.R_reads hR4
 have HC2 := Lib.hid hC2
 have HC1' := Lib.hid (Kd.C_below HC1.out g4)
 rw [HNA.out] at HC1'
 rw [HNB.out] at HC2
 rw [HNA.out, HNB.out]
 clear hR4 hC2 g4
 refine hK.out _ _ ⟨HX4.out.cells.1, HX4.out.cells.2.1⟩ (fun hHeld => ?_)
 clear hK K
 refine n2_ 13 ?_
 refine o2_ 6 14 (bA_ 11 127) (fun K hK => ?_)
 refine g2_ Tryz.func163 #[.slice A1 na k1, .slice A2 nb k2] ?_
 with_reducible refine (HM.out _ A1 A2 k1 k2 HC1'.out HC2.out).mono ?_
 rintro e w5 ⟨x, y, rfl, hMI, g5⟩
 refine ⟨_, rfl, ?_⟩
 have HX5 := Lib.hid (HX4.out.below g5)
 have HMI := Lib.hid hMI
 rw [HNA.out, HNB.out] at HMI
 clear hMI g5
 refine hK.out _ _ ⟨HX5.out.cells.1, HX5.out.cells.2.1⟩ (fun hHeld => ?_)
 clear hK K
 refine n2_ 14 ?_
 refine p2_ 7 15 (bA_ 11 255) ?_
 refine p2_ 8 16 (bA_ 11 511) ?_
 refine p2_ 9 6 (bA_ 11 1023) ?_
 refine p2_ 10 7 (bA_ 11 2047) ?_
 refine done_ (by kernel_rfl) ?_
 all_goals (try go_wp2_with fail)
 all_goals go_ret2
 all_goals exact HPO.out _ _ ⟨x, y, rfl, HMI.out, HX5.out.bel⟩
theorem far12_walk (w : World) (n m : Nat) (rA wA : Option Addr) (rc wc : Nat) (a b : List S37) (s t z : Int) (hz : ∀ x y, MInv a b a.length b.length a.length 0 x y → x = z)
  (hW : ∀ W, Below w.heap.size w W → Calls Tryz.prog 153 #[.agg #[.slice rA n rc, .slice wA m wc], .int .i64 s, .int .i64 t] W fun r w' => MPost W a b r w') :
  Calls Tryz.prog 128 #[.agg #[.slice rA n rc, .slice wA m wc], .int .i64 s, .int .i64 t] w fun r w' => r = .returned (.int .i64 z) ∧ Below w.heap.size w w' := by
 have HX := Lib.hid (HBx.new w (.slice rA n rc) (.slice wA m wc))
 have HZ := Lib.hid hz
 have HW := Lib.hid (hW _ HX.out.bel)
 clear hW hz
 obtain ⟨c0, c1, l0⟩ := HX.out.cells
 go_enter Tryz.func128, Tryz.ntmps128
 go_wp2_with (first | (go_at_call 153; refine HW.out.mono ?_; rintro e w1 ⟨x, y, rfl, hM, hB⟩; have HB := Lib.hid (HX.out.below hB); have HE := Lib.hid (HZ.out _ _ hM); clear hB hM c0 c1 l0))
 all_goals go_ret
 all_goals exact ⟨ret_int HE.out, HB.out.bel⟩
structure B3 (w W : World) (s1 s2 : Value) (a0 a1 b0 b1 : Int) : Prop where
 B0 : W.heap[w.heap.size]? = some (.cells #[s1, s2] 31 (0, 0))
 B1 : W.heap[w.heap.size + 1]? = some (.cells #[.int .i64 a0, .int .i64 a1] 37 (0, 0))
 B2 : W.heap[w.heap.size + 1 + 1]? = some (.cells #[.int .i64 b0, .int .i64 b1] 37 (0, 0))
 bel : Below w.heap.size w W
theorem B3.below {w W W' : World} {s1 s2 : Value} {a0 a1 b0 b1 : Int} (h : B3 w W s1 s2 a0 a1 b0 b1) (g : Below W.heap.size W W') : B3 w W' s1 s2 a0 a1 b0 b1 :=
 ⟨(g.block _ (blk_lt h.B0)).trans h.B0, (g.block _ (blk_lt h.B1)).trans h.B1, (g.block _ (blk_lt h.B2)).trans h.B2, h.bel.trans (g.mono h.bel.size)⟩
theorem B3.cells {w W : World} {s1 s2 : Value} {a0 a1 b0 b1 : Int} (h : B3 w W s1 s2 a0 a1 b0 b1) :
  W.cell? ⟨w.heap.size, 0, none⟩ = some s1 ∧ W.cell? ⟨w.heap.size, 1, none⟩ = some s2 ∧ W.cell? ⟨w.heap.size + 1, 0, none⟩ = some (.int .i64 a0) ∧ W.cell? ⟨w.heap.size + 1, 1, none⟩ = some (.int .i64 a1) ∧
   W.cell? ⟨w.heap.size + 1 + 1, 0, none⟩ = some (.int .i64 b0) ∧ W.cell? ⟨w.heap.size + 1 + 1, 1, none⟩ = some (.int .i64 b1) ∧ w.heap.size < W.heap.size ∧ w.heap.size + 1 < W.heap.size ∧ w.heap.size + 1 + 1 < W.heap.size :=
 ⟨(blk_cell h.B0 0).trans rfl, (blk_cell h.B0 1).trans rfl, (blk_cell h.B1 0).trans rfl, (blk_cell h.B1 1).trans rfl, (blk_cell h.B2 0).trans rfl, (blk_cell h.B2 1).trans rfl, blk_lt h.B0, blk_lt h.B1, blk_lt h.B2⟩
theorem B3.new (w : World) (s1 s2 : Value) (a0 a1 b0 b1 : Int) : B3 w (((w.alloc (.cells #[s1, s2] 31)).alloc (.cells #[.int .i64 a0, .int .i64 a1] 37)).alloc (.cells #[.int .i64 b0, .int .i64 b1] 37)) s1 s2 a0 a1 b0 b1 := by
 have e1 : (w.alloc (.cells #[s1, s2] 31)).heap.size = w.heap.size + 1 := Array.size_push _
 have e2 : ((w.alloc (.cells #[s1, s2] 31)).alloc (.cells #[.int .i64 a0, .int .i64 a1] 37)).heap.size = w.heap.size + 1 + 1 := (Array.size_push _).trans (by rw [e1])
 have g1 := (Below.refl (w.alloc (.cells #[s1, s2] 31)).heap.size (w.alloc (.cells #[s1, s2] 31))).alloc (Nat.le_refl _) (.cells #[.int .i64 a0, .int .i64 a1] 37)
 have g2 := (Below.refl ((w.alloc (.cells #[s1, s2] 31)).alloc (.cells #[.int .i64 a0, .int .i64 a1] 37)).heap.size ((w.alloc (.cells #[s1, s2] 31)).alloc (.cells #[.int .i64 a0, .int .i64 a1] 37))).alloc (Nat.le_refl _) (.cells #[.int .i64 b0, .int .i64 b1] 37)
 have h0 := HBx.new w s1 s2
 have k1 := blk_new (w.alloc (.cells #[s1, s2] 31)) (.cells #[.int .i64 a0, .int .i64 a1] 37)
 have k2 := blk_new ((w.alloc (.cells #[s1, s2] 31)).alloc (.cells #[.int .i64 a0, .int .i64 a1] 37)) (.cells #[.int .i64 b0, .int .i64 b1] 37)
 rw [e1] at k1
 rw [e2] at k2
 have h1 := h0.below g1
 have h2 := h1.below g2
 exact ⟨h2.B0, (g2.block _ (blk_lt k1)).trans k1, k2, h2.bel⟩
def beatsG (fr : Int → Int → Int) (back : Bool) (a b : S37) : Bool :=
 let d := if back = true then fr b.f0 a.f0 else fr a.f0 b.f0
 decide (d ≠ -1) && decide (a.f0 ≠ b.f0) && (decide (a.f1 + d < b.f1) || (decide (a.f1 + d = b.f1) && decide (a.f0 < b.f0)))
theorem ret_bool {a b : Bool} (h : a = b) : Ending.returned (.bool a) = Ending.returned (.bool b) := by rw [h]
set_option maxRecDepth 100000 in
set_option maxHeartbeats 4000000 in
theorem beats14_walk (w : World) (n m : Nat) (rA wA : Option Addr) (rc wc : Nat) (fr : Int → Int → Int) (hF : FarIs w (.agg #[.slice rA n rc, .slice wA m wc]) fr) (hfb : ∀ s t, fr s t = -1 ∨ (0 ≤ fr s t ∧ fr s t ≤ 2305843009213693952)) (a0 a1 b0 b1 : Int) (h0 : 0 ≤ a1) (h1 : a1 ≤ 2305843009213693952) (back : Bool) :
  Calls Tryz.prog 129 #[.agg #[.slice rA n rc, .slice wA m wc], .agg #[.int .i64 a0, .int .i64 a1], .agg #[.int .i64 b0, .int .i64 b1], .bool back] w fun r w' => r = .returned (.bool (beatsG fr back ⟨a0, a1⟩ ⟨b0, b1⟩)) ∧ Below w.heap.size w w' := by
 have HX0 := Lib.hid (B3.new w (.slice rA n rc) (.slice wA m wc) a0 a1 b0 b1)
 have HF : Hid (∀ W, Below w.heap.size w W → ∀ s t, Calls Tryz.prog 128 #[.agg #[.slice rA n rc, .slice wA m wc], .int .i64 s, .int .i64 t] W fun r w' => r = .returned (.int .i64 (fr s t)) ∧ Below W.heap.size W w') := Lib.hid (fun W g s t => hF.at g s t)
 obtain ⟨B, hB⟩ : ∃ B, beatsG fr back ⟨a0, a1⟩ ⟨b0, b1⟩ = B := ⟨_, rfl⟩
 obtain ⟨d, hd⟩ : ∃ d, (if back = true then fr b0 a0 else fr a0 b0) = d := ⟨_, rfl⟩
 have HBE : Hid (B = (decide (d ≠ -1) && decide (a0 ≠ b0) && (decide (a1 + d < b1) || (decide (a1 + d = b1) && decide (a0 < b0))))) := Lib.hid (by rw [← hB, ← hd]; rfl)
 have hdb : d = -1 ∨ (0 ≤ d ∧ d ≤ 2305843009213693952) := by
  rw [← hd]
  split
  ·exact hfb _ _
  ·exact hfb _ _
 have HD := Lib.hid hd
 rw [hB]
 clear hB hd hF hfb
 obtain ⟨c0, c1, x0, x1, z0, z1, l0, l1, l2⟩ := HX0.out.cells
 have hwrap : IntKind.i64.wrap (a1 + d) = a1 + d := i64w rfl (by omega) (by omega)
 go_enter Tryz.func129, Tryz.ntmps129
 go_wp2_with fail
 refine (HF.out _ HX0.out.bel a0 b0).mono ?_
 rintro e w1 ⟨rfl, g⟩
 have HX1 := Lib.hid (HX0.out.below g)
 clear g c0 c1 x0 x1 z0 z1 l0 l1 l2
 obtain ⟨c0, c1, x0, x1, z0, z1, l0, l1, l2⟩ := HX1.out.cells
 cases back with
 | false =>
  have hd : fr a0 b0 = d := HD.out
  rw [hd]
  clear HD hd
  by_cases h3 : d < 0
  ·have e1 : decide (d < 0) = true := by simpa using h3
   have HV : Hid (B = false) := Lib.hid (by rw [HBE.out]; simp; omega)
   clear hdb
   go_wp2_with fail
   all_goals (try rw [Exit.noGoto_ret])
   all_goals go_ret
   all_goals exact ⟨ret_bool HV.out.symm, HX1.out.bel⟩
  have e1 : decide (d < 0) = false := by simpa using h3
  by_cases h4 : a0 = b0
  ·have e2 : (a0 == b0) = true := by simpa using h4
   have HV : Hid (B = false) := Lib.hid (by rw [HBE.out]; simp; omega)
   clear hdb
   go_wp2_with fail
   all_goals (try rw [Exit.noGoto_ret])
   all_goals go_ret
   all_goals exact ⟨ret_bool HV.out.symm, HX1.out.bel⟩
  have e2 : (a0 == b0) = false := by simpa using h4
  by_cases h5 : a1 + d < b1
  ·have e3 : decide (a1 + d < b1) = true := by simpa using h5
   have HV : Hid (B = true) := Lib.hid (by rw [HBE.out]; simp; omega)
   clear hdb
   go_wp2_with fail
   all_goals (try rw [Exit.noGoto_ret])
   all_goals go_ret
   all_goals exact ⟨ret_bool HV.out.symm, HX1.out.bel⟩
  have e3 : decide (a1 + d < b1) = false := by simpa using h5
  by_cases h6 : a1 + d = b1
  rotate_left
  ·have e4 : (a1 + d == b1) = false := by simpa using h6
   have HV : Hid (B = false) := Lib.hid (by rw [HBE.out]; simp; omega)
   clear hdb
   go_wp2_with fail
   all_goals (try rw [Exit.noGoto_ret])
   all_goals go_ret
   all_goals exact ⟨ret_bool HV.out.symm, HX1.out.bel⟩
  have e4 : (a1 + d == b1) = true := by simpa using h6
  by_cases h7 : a0 < b0
  ·have e5 : decide (a0 < b0) = true := by simpa using h7
   have HV : Hid (B = true) := Lib.hid (by rw [HBE.out]; simp; omega)
   clear hdb h6
   go_wp2_with fail
   all_goals (try rw [Exit.noGoto_ret])
   all_goals go_ret
   all_goals exact ⟨ret_bool HV.out.symm, HX1.out.bel⟩
  ·have e5 : decide (a0 < b0) = false := by simpa using h7
   have HV : Hid (B = false) := Lib.hid (by rw [HBE.out]; simp; omega)
   clear hdb h6
   go_wp2_with fail
   all_goals (try rw [Exit.noGoto_ret])
   all_goals go_ret
   all_goals exact ⟨ret_bool HV.out.symm, HX1.out.bel⟩
 | true =>
  go_wp2_with fail
  refine (HF.out _ HX1.out.bel b0 a0).mono ?_
  rintro e w2 ⟨rfl, g⟩
  have HX2 := Lib.hid (HX1.out.below g)
  have hd : fr b0 a0 = d := HD.out
  rw [hd]
  clear HD hd g c0 c1 x0 x1 z0 z1 l0 l1 l2
  obtain ⟨c0, c1, x0, x1, z0, z1, l0, l1, l2⟩ := HX2.out.cells
  by_cases h3 : d < 0
  ·have e1 : decide (d < 0) = true := by simpa using h3
   have HV : Hid (B = false) := Lib.hid (by rw [HBE.out]; simp; omega)
   clear hdb
   go_wp2_with fail
   all_goals (try rw [Exit.noGoto_ret])
   all_goals go_ret
   all_goals exact ⟨ret_bool HV.out.symm, HX2.out.bel⟩
  have e1 : decide (d < 0) = false := by simpa using h3
  by_cases h4 : a0 = b0
  ·have e2 : (a0 == b0) = true := by simpa using h4
   have HV : Hid (B = false) := Lib.hid (by rw [HBE.out]; simp; omega)
   clear hdb
   go_wp2_with fail
   all_goals (try rw [Exit.noGoto_ret])
   all_goals go_ret
   all_goals exact ⟨ret_bool HV.out.symm, HX2.out.bel⟩
  have e2 : (a0 == b0) = false := by simpa using h4
  by_cases h5 : a1 + d < b1
  ·have e3 : decide (a1 + d < b1) = true := by simpa using h5
   have HV : Hid (B = true) := Lib.hid (by rw [HBE.out]; simp; omega)
   clear hdb
   go_wp2_with fail
   all_goals (try rw [Exit.noGoto_ret])
   all_goals go_ret
   all_goals exact ⟨ret_bool HV.out.symm, HX2.out.bel⟩
  have e3 : decide (a1 + d < b1) = false := by simpa using h5
  by_cases h6 : a1 + d = b1
  rotate_left
  ·have e4 : (a1 + d == b1) = false := by simpa using h6
   have HV : Hid (B = false) := Lib.hid (by rw [HBE.out]; simp; omega)
   clear hdb
   go_wp2_with fail
   all_goals (try rw [Exit.noGoto_ret])
   all_goals go_ret
   all_goals exact ⟨ret_bool HV.out.symm, HX2.out.bel⟩
  have e4 : (a1 + d == b1) = true := by simpa using h6
  by_cases h7 : a0 < b0
  ·have e5 : decide (a0 < b0) = true := by simpa using h7
   have HV : Hid (B = true) := Lib.hid (by rw [HBE.out]; simp; omega)
   clear hdb h6
   go_wp2_with fail
   all_goals (try rw [Exit.noGoto_ret])
   all_goals go_ret
   all_goals exact ⟨ret_bool HV.out.symm, HX2.out.bel⟩
  ·have e5 : decide (a0 < b0) = false := by simpa using h7
   have HV : Hid (B = false) := Lib.hid (by rw [HBE.out]; simp; omega)
   clear hdb h6
   go_wp2_with fail
   all_goals (try rw [Exit.noGoto_ret])
   all_goals go_ret
   all_goals exact ⟨ret_bool HV.out.symm, HX2.out.bel⟩
def intsOf (l : List S37) : List Int := l.map (·.f0)
theorem intsOf_app (l : List S37) (x : S37) : intsOf (l ++ [x]) = intsOf l ++ [x.f0] := by simp [intsOf]
theorem intsOf_len (l : List S37) : (intsOf l).length = l.length := by simp [intsOf]
set_option maxRecDepth 100000 in
set_option maxHeartbeats 4000000 in
theorem great14_walk (w : World) (n m : Nat) (hn : n ≤ 900) (rank : List Int) (rA wA : Option Addr) (rc wc : Nat) (hrl : rank.length = n) (hr : Kd.C (Kd.int .i64) w rA n rank) (k : Int) :
  Calls Tryz.prog 47 #[.agg #[.slice rA n rc, .slice wA m wc], .int .i64 k] w fun r w' => ∃ vr, r = .returned vr ∧ Kd.R (Kd.int .i64) 3 w' w.heap.size (fun _ => True) vr (intsOf (rowsP n (fun _ => some 0) (fun u => decide (lowAt n k ≤ rd rank (u : Int))))) ∧ Below w.heap.size w w' := by
 have HLW : Hid (∀ W, Calls Tryz.prog 100 #[.agg #[.slice rA n rc, .slice wA m wc], .int .i64 k] W fun r w' => r = .returned (.int .i64 (lowAt n k)) ∧ Below W.heap.size W w') := Lib.hid (fun W => low14_walk W n m hn rA wA rc wc k)
 have HX0 := Lib.hid (HBx.new w (.slice rA n rc) (.slice wA m wc))
 have HRF : Hid (∀ W, Below w.heap.size w W → ∀ v : Nat, v < n → ∃ ad, rA = some ad ∧ W.cell? (ad.add v) = some (.int .i64 (rd rank (v : Int)))) := Lib.hid (fun W g v h => rank_cell (rank := rank) (by rw [hrl]; exact hr) g v (by omega) (by omega))
 clear hr hrl
 generalize lowAt n k = lo at *
 obtain ⟨c0, c1, l0⟩ := HX0.out.cells
 go_enter Tryz.func47, Tryz.ntmps47
 go_wp2_with fail
 generalize w.alloc (.cells #[.slice rA n rc, .slice wA m wc] 31) = W1 at *
 go_loopw [5, 6] (fun v5 v6 wr => ∃ i : Nat, v6 = .int .i64 i ∧ i ≤ n ∧ Hid (Kd.R (Kd.int .i64) 3 wr W1.heap.size (fun _ => True) v5 (intsOf (rowsP i (fun _ => some 0) (fun u => decide (lo ≤ rd rank (u : Int)))))) ∧ Hid (Below W1.heap.size W1 wr)) (fun _ v6 _ => n - (intOf v6).toNat)
 case atStart => exact ⟨0, rfl, by omega, Lib.hid (Kd.R_nil _ _ _ _ _), Lib.hid (Below.refl _ _)⟩
 case round =>
  obtain ⟨i, rfl, hi, HR, HB⟩ := hrel
  have HX := Lib.hid (HX0.out.below HB.out)
  clear c0 c1 l0
  obtain ⟨c0, c1, l0⟩ := HX.out.cells
  by_cases hlt : i < n
  ·obtain ⟨ar, hAr, r0⟩ := HRF.out wr HX.out.bel i hlt
   have HRG : Hid (∀ W, Below wr.heap.size wr W → W.cell? (ar.add i) = some (.int .i64 (rd rank (i : Int)))) := Lib.hid (fun W g => by
    obtain ⟨ar', e, h⟩ := HRF.out W (HX.out.below g).bel i hlt
    rw [hAr] at e
    cases e
    exact h)
   subst hAr
   have hi0 : (0 : Int) ≤ (i : Int) := Int.natCast_nonneg _
   have hi1 : (i : Int) < (n : Int) := by omega
   have hlen : (intsOf (rowsP i (fun _ => some 0) (fun u => decide (lo ≤ rd rank (u : Int))))).length ≤ i := by rw [intsOf_len]; exact rowsP_len _ _ _
   have HNO : Hid (decide (rd rank (i : Int) ≥ lo) = false → intsOf (rowsP (i + 1) (fun _ => some 0) (fun u => decide (lo ≤ rd rank (u : Int)))) = intsOf (rowsP i (fun _ => some 0) (fun u => decide (lo ≤ rd rank (u : Int))))) := Lib.hid (fun h => congrArg intsOf (rowsP_no (by simpa using h)))
   have HYES : Hid (decide (rd rank (i : Int) ≥ lo) = true → intsOf (rowsP (i + 1) (fun _ => some 0) (fun u => decide (lo ≤ rd rank (u : Int)))) = intsOf (rowsP i (fun _ => some 0) (fun u => decide (lo ≤ rd rank (u : Int)))) ++ [(i : Int)]) := Lib.hid (fun h => (congrArg intsOf (rowsP_yes (by simpa using h))).trans (intsOf_app _ _))
   obtain ⟨l, hl⟩ : ∃ l, intsOf (rowsP i (fun _ => some 0) (fun u => decide (lo ≤ rd rank (u : Int)))) = l := ⟨_, rfl⟩
   obtain ⟨l', hl'⟩ : ∃ l', intsOf (rowsP (i + 1) (fun _ => some 0) (fun u => decide (lo ≤ rd rank (u : Int)))) = l' := ⟨_, rfl⟩
   have HL' := Lib.hid hl'
   rw [hl] at HR HNO HYES hlen
   rw [hl'] at HNO HYES
   clear hl hl'
   generalize rd rank (i : Int) = ka at *
   have hs2 : W1.heap.size ≤ wr.heap.size := HB.out.size
   obtain ⟨B, hB⟩ : ∃ B, decide (ka ≥ lo) = B := ⟨_, rfl⟩
   rw [hB] at HNO HYES
   go_upto_region 5 with fail
   go_cut [22] from 14 to 22 (fun v22 wx => v22 = .bool B ∧ Hid (Below wr.heap.size wr wx))
   case first =>
    refine start_ (n := 9) (S := fun w' => w'.cell? ⟨w.heap.size, 0, none⟩ = some (.slice (some ar) n rc) ∧ w'.cell? ⟨w.heap.size, 1, none⟩ = some (.slice wA m wc) ∧ w'.cell? (ar.add i) = some (.int .i64 ka)) (ds := []) (bA_ 9 0) (by kernel_rfl) rfl rfl ⟨c0, c1, r0⟩ (fun hHeld => ?_)
    refine p2_ 0 14 (bA_ 9 1) ?_
    refine p2_ 2 16 (bA_ 9 5) ?_
    refine p2_ 6 20 (bA_ 9 69) ?_
    refine t2_ 1 15 (bA_ 9 71) hHeld ?_ (hy := by rintro w' ⟨s0, s1, s2⟩; go_simp; with_reducible rfl)
    refine p2_ 3 17 (bA_ 9 79) ?_
    refine t2_ 4 18 (bA_ 9 95) hHeld ?_ (hy := by rintro w' ⟨s0, s1, s2⟩; go_simp; with_reducible rfl)
    refine t2_ 5 19 (bA_ 9 127) hHeld ?_ (hy := by rintro w' ⟨s0, s1, s2⟩; go_simp; with_reducible rfl)
    refine o2_ 7 21 (bA_ 9 255) (fun K hK => ?_)
    refine g2_ Tryz.func100 #[.agg #[.slice (some ar) n rc, .slice wA m wc], .int .i64 k] ?_
    with_reducible refine (HLW.out _).mono ?_
    rintro e w3 ⟨rfl, g3⟩
    refine ⟨_, rfl, ?_⟩
    have HGX : Hid (Below wr.heap.size wr w3) := Lib.hid (((Below.refl _ _).drew).trans g3)
    refine hK.out _ _ ⟨(HX.out.below HGX.out).cells.1, (HX.out.below HGX.out).cells.2.1, HRG.out _ HGX.out⟩ (fun hHeld => ?_)
    clear hK K
    refine n2_ 21 ?_
    refine p2_ 8 22 (bA_ 9 511) ?_
    refine done_ (by kernel_rfl) ?_
    all_goals (try go_wp2_with fail)
    all_goals go_meet
    all_goals exact ⟨rfl, HGX⟩
   case rest =>
   obtain ⟨rfl, HGW⟩ := hcut
   clear hB r0 c0 c1 l0
   have HBW := Lib.hid (HB.out.trans (HGW.out.mono HB.out.size))
   have HXW := Lib.hid (HX.out.below HGW.out)
   have HRW := Lib.hid (Kd.R_below HR.out HGW.out)
   clear HR HRG HGW hs2
   generalize wc = W5 at *
   have hs2 : W1.heap.size ≤ W5.heap.size := HBW.out.size
   cases B with
   | false =>
    have HE := Lib.hid (HNO.out rfl)
    go_wp2_with fail
    go_roundw
    case measure => simp [intOf]; omega
    case rel => exact ⟨i + 1, by go_num, by omega, Lib.hid (by rw [HL'.out, HE.out]; exact HRW.out), HBW⟩
   | true =>
    have HE := Lib.hid (HYES.out rfl)
    go_wp2_with (at_builtin; refine Kd.R_append (Kd.int .i64) (w0 := W1) (W := W5) W1.heap.size rfl (.tmp 23) (.tmp 25) 28 3 (.int .i64 0) 8 rfl Tryz.underlying28 info3 rfl (by decide) (by omega) _ l (i : Int) [.int .i64 i] (fun _ => True) (fun _ => False) rfl rfl rfl (fun _ h => h.elim) (fun _ _ => trivial) HRW.out HBW.out hs2 (by omega) ?_; intro v1 w2 hR2 hB2 _ _; have HR2 := Lib.hid hR2; have HB2 := Lib.hid hB2; clear hR2 hB2)
    go_roundw
    case measure => simp [intOf]; omega
    case rel => exact ⟨i + 1, by go_num, by omega, Lib.hid (by rw [HL'.out, HE.out]; exact HR2.out), HB2⟩
  ·have hin : n ≤ i := by omega
   have HIN : Hid (i = n) := Lib.hid (by omega)
   go_wp2_with fail
   go_ret
   rw [HIN.out] at HR
   exact ⟨_, rfl, Kd.R_lower HR.out HX0.out.bel.size, HX.out.bel⟩
set_option maxRecDepth 100000 in
set_option maxHeartbeats 4000000 in
theorem sub14_walk (w : World) (n m : Nat) (hn : n ≤ 900) (rank : List Int) (rA wA : Option Addr) (rc wc : Nat) (hrl : rank.length = n) (hr : Kd.C (Kd.int .i64) w rA n rank) (cl : Int → Int → Bool → Int → Option Int) (hcl : ClimbIs w n (.agg #[.slice rA n rc, .slice wA m wc]) cl) (v k : Int) (back : Bool) :
  Calls Tryz.prog 50 #[.agg #[.slice rA n rc, .slice wA m wc], .int .i64 v, .int .i64 k, .bool back] w fun r w' => ∃ vr, r = .returned vr ∧ Kd.R (Kd.int .i64) 3 w' w.heap.size (fun _ => True) vr (intsOf (rowsP n (cl v (lowAt n k) back) (fun u => decide (rd rank (u : Int) < lowAt n k)))) ∧ Below w.heap.size w w' := by
 have HLW : Hid (∀ W, Calls Tryz.prog 100 #[.agg #[.slice rA n rc, .slice wA m wc], .int .i64 k] W fun r w' => r = .returned (.int .i64 (lowAt n k)) ∧ Below W.heap.size W w') := Lib.hid (fun W => low14_walk W n m hn rA wA rc wc k)
 have HRF : Hid (∀ W, Below w.heap.size w W → ∀ v : Nat, v < n → ∃ ad, rA = some ad ∧ W.cell? (ad.add v) = some (.int .i64 (rd rank (v : Int)))) := Lib.hid (fun W g v h => rank_cell (rank := rank) (by rw [hrl]; exact hr) g v (by omega) (by omega))
 have HCL := Lib.hid hcl
 have HX0 := Lib.hid (HBx.new w (.slice rA n rc) (.slice wA m wc))
 clear hr hcl hrl
 generalize lowAt n k = lo at *
 obtain ⟨c0, c1, l0⟩ := HX0.out.cells
 go_enter Tryz.func50, Tryz.ntmps50
 go_wp2_with (first | (go_at_call 100; refine (HLW.out _).mono ?_; rintro e w2 ⟨rfl, g⟩; have HX2 := Lib.hid (HX0.out.below g); clear g c0 c1 l0; obtain ⟨c0, c1, l0⟩ := HX2.out.cells) | (go_at_call 104; refine (HCL.out.at HX2.out.bel v lo back).mono ?_; rintro e w3 ⟨d, gb, rfl, hR3, hdl, hdc, g3⟩; have HX3 := Lib.hid (HX2.out.below g3); have HC3 := Lib.hid (Kd.R_reads' hR3).2.2; have HDC := Lib.hid hdc; have HDL := Lib.hid hdl; clear hR3 hdl hdc g3 c0 c1 l0))
 rw [HDL.out] at HC3
 have HDF : Hid (∀ W, Below w3.heap.size w3 W → ∀ v : Nat, v < n → W.cell? ⟨gb, v, none⟩ = some (.int .i64 (rd d (v : Int)))) := Lib.hid (fun W g v h => by
  obtain ⟨ad, e, hc⟩ := rank_cell (rank := d) (by rw [HDL.out]; exact HC3.out) g v (by omega) (by rw [HDL.out]; omega)
  cases e
  simp only [Int.toNat_natCast] at hc
  rcases Nat.eq_zero_or_pos v with h0 | h0
  ·subst h0; exact hc
  ·simpa [Addr.add, Nat.ne_of_gt h0] using hc)
 have HEQ : Hid (rowsP n (ofRow d) (fun u => decide (rd rank (u : Int) < lo)) = rowsP n (cl v lo back) (fun u => decide (rd rank (u : Int) < lo))) := Lib.hid (rowsP_congr HDC.out (fun _ _ => rfl))
 clear HDC HC3 HDL
 obtain ⟨c0, c1, l0⟩ := HX3.out.cells
 generalize w3 = W1 at *
 go_loopw [11, 12] (fun v11 v12 wr => ∃ i : Nat, v12 = .int .i64 i ∧ i ≤ n ∧ Hid (Kd.R (Kd.int .i64) 3 wr W1.heap.size (fun _ => True) v11 (intsOf (rowsP i (ofRow d) (fun u => decide (rd rank (u : Int) < lo))))) ∧ Hid (Below W1.heap.size W1 wr)) (fun _ v12 _ => n - (intOf v12).toNat)
 case atStart => exact ⟨0, rfl, by omega, Lib.hid (Kd.R_nil _ _ _ _ _), Lib.hid (Below.refl _ _)⟩
 case round =>
  obtain ⟨i, rfl, hi, HR, HB⟩ := hrel
  have HX := Lib.hid (HX3.out.below HB.out)
  clear c0 c1 l0
  obtain ⟨c0, c1, l0⟩ := HX.out.cells
  by_cases hlt : i < n
  ·obtain ⟨ar, hAr, r0⟩ := HRF.out wr HX.out.bel i hlt
   have d0 := HDF.out wr HB.out i hlt
   subst hAr
   have hi0 : (0 : Int) ≤ (i : Int) := Int.natCast_nonneg _
   have hi1 : (i : Int) < (n : Int) := by omega
   have hlen : (intsOf (rowsP i (ofRow d) (fun u => decide (rd rank (u : Int) < lo)))).length ≤ i := by rw [intsOf_len]; exact rowsP_len _ _ _
   have HNO : Hid (((ofRow d (i : Int)).isSome && decide (rd rank (i : Int) < lo)) = false → intsOf (rowsP (i + 1) (ofRow d) (fun u => decide (rd rank (u : Int) < lo))) = intsOf (rowsP i (ofRow d) (fun u => decide (rd rank (u : Int) < lo)))) := Lib.hid (fun h => congrArg intsOf (rowsP_no h))
   have HYES : Hid (((ofRow d (i : Int)).isSome && decide (rd rank (i : Int) < lo)) = true → intsOf (rowsP (i + 1) (ofRow d) (fun u => decide (rd rank (u : Int) < lo))) = intsOf (rowsP i (ofRow d) (fun u => decide (rd rank (u : Int) < lo))) ++ [(i : Int)]) := Lib.hid (fun h => (congrArg intsOf (rowsP_yes h)).trans (intsOf_app _ _))
   have HOF : Hid (ofRow d (i : Int) = if 0 ≤ rd d (i : Int) then some (rd d (i : Int)) else none) := Lib.hid rfl
   obtain ⟨l, hl⟩ : ∃ l, intsOf (rowsP i (ofRow d) (fun u => decide (rd rank (u : Int) < lo))) = l := ⟨_, rfl⟩
   obtain ⟨l', hl'⟩ : ∃ l', intsOf (rowsP (i + 1) (ofRow d) (fun u => decide (rd rank (u : Int) < lo))) = l' := ⟨_, rfl⟩
   have HL' := Lib.hid hl'
   rw [hl] at HR HNO HYES hlen
   rw [hl'] at HNO HYES
   clear hl hl'
   generalize ofRow d (i : Int) = o at *
   generalize rd d (i : Int) = q at *
   generalize rd rank (i : Int) = ka at *
   have hs2 : W1.heap.size ≤ wr.heap.size := HB.out.size
   by_cases h3 : q ≥ 0
   rotate_left
   ·have e7 : decide (q ≥ 0) = false := by simpa using h3
    have HE : Hid (l' = l) := Lib.hid (HNO.out (by rw [HOF.out, if_neg h3]; rfl))
    clear h3
    go_wp2_with fail
    go_roundw
    case measure => simp [intOf]; omega
    case rel => exact ⟨i + 1, by go_num, by omega, Lib.hid (by rw [HL'.out, HE.out]; exact HR.out), HB⟩
   have e7 : decide (q ≥ 0) = true := by simpa using h3
   by_cases h5 : ka < lo
   rotate_left
   ·have e9 : decide (ka < lo) = false := by simpa using h5
    have HE : Hid (l' = l) := Lib.hid (HNO.out (by rw [e9]; simp))
    clear h3 h5
    go_wp2_with fail
    go_roundw
    case measure => simp [intOf]; omega
    case rel => exact ⟨i + 1, by go_num, by omega, Lib.hid (by rw [HL'.out, HE.out]; exact HR.out), HB⟩
   have e9 : decide (ka < lo) = true := by simpa using h5
   have HE : Hid (l' = l ++ [(i : Int)]) := Lib.hid (HYES.out (by rw [HOF.out, if_pos h3, e9]; rfl))
   clear h3 h5
   go_wp2_with (at_builtin; refine Kd.R_append (Kd.int .i64) (w0 := W1) (W := wr) W1.heap.size rfl (.tmp 41) (.tmp 43) 28 3 (.int .i64 0) 8 rfl Tryz.underlying28 info3 rfl (by decide) (by omega) _ l (i : Int) [.int .i64 i] (fun _ => True) (fun _ => False) rfl rfl rfl (fun _ h => h.elim) (fun _ _ => trivial) HR.out HB.out hs2 (by omega) ?_; intro v1 w2 hR2 hB2 _ _; have HR2 := Lib.hid hR2; have HB2 := Lib.hid hB2; clear hR2 hB2)
   go_roundw
   case measure => simp [intOf]; omega
   case rel => exact ⟨i + 1, by go_num, by omega, Lib.hid (by rw [HL'.out, HE.out]; exact HR2.out), HB2⟩
  ·have hin : n ≤ i := by omega
   have HIN : Hid (i = n) := Lib.hid (by omega)
   go_wp2_with fail
   go_ret
   rw [HIN.out] at HR
   exact ⟨_, rfl, by rw [← HEQ.out]; exact Kd.R_lower HR.out HX3.out.bel.size, HX.out.bel⟩
def pruneG (fr : Int → Int → Int) (back : Bool) (l : List S37) : List S37 := l.filter fun b => !(l.any fun a => beatsG fr back a b)
theorem take_ok {l : List S37} (P : S37 → Bool) (i : Nat) (h : i < l.length) : (l.take (i + 1)).filter P = (l.take i).filter P ++ (if P (rd_T37 l (i : Int)) = true then [rd_T37 l (i : Int)] else []) := by
 have e : rd_T37 l (i : Int) = l[i] := by simp [rd_T37, List.getD, h]
 rw [List.take_succ_eq_append_getElem h, List.filter_append, e]
 by_cases hp : P l[i] = true
 ·rw [if_pos hp]; simp [hp]
 ·rw [if_neg hp]; simp [hp]
theorem any_ok {l : List S37} (P : S37 → Bool) (i : Nat) (h : i < l.length) : (l.take (i + 1)).any P = ((l.take i).any P || P (rd_T37 l (i : Int))) := by
 have e : rd_T37 l (i : Int) = l[i] := by simp [rd_T37, List.getD, h]
 rw [List.take_succ_eq_append_getElem h, List.any_append, e]
 simp
set_option maxRecDepth 100000 in
set_option maxHeartbeats 4000000 in
theorem prune14_walk (w : World) (n m : Nat) (rA wA : Option Addr) (rc wc : Nat) (fr : Int → Int → Int) (hF : FarIs w (.agg #[.slice rA n rc, .slice wA m wc]) fr) (hfb : ∀ s t, fr s t = -1 ∨ (0 ≤ fr s t ∧ fr s t ≤ 2305843009213693952)) (back : Bool)
  (l : List S37) (lA : Option Addr) (lc : Nat) (hl : Kd.C k37 w lA l.length l) (hll : l.length ≤ 1000) (hD : ∀ a ∈ l, 0 ≤ a.f1 ∧ a.f1 ≤ 2305843009213693952) :
  Calls Tryz.prog 102 #[.agg #[.slice rA n rc, .slice wA m wc], .slice lA l.length lc, .bool back] w fun r w' => ∃ vr, r = .returned vr ∧ Kd.R k37 37 w' w.heap.size (fun _ => True) vr (pruneG fr back l) ∧ Below w.heap.size w w' := by
 have HBT : Hid (∀ W, Below w.heap.size w W → ∀ k i : Nat, k < l.length → Calls Tryz.prog 129 #[.agg #[.slice rA n rc, .slice wA m wc], .agg #[.int .i64 (rd_T37 l (k : Int)).f0, .int .i64 (rd_T37 l (k : Int)).f1], .agg #[.int .i64 (rd_T37 l (i : Int)).f0, .int .i64 (rd_T37 l (i : Int)).f1], .bool back] W fun r w' => r = .returned (.bool (beatsG fr back (rd_T37 l (k : Int)) (rd_T37 l (i : Int)))) ∧ Below W.heap.size W w') := Lib.hid (fun W g k i hk => by
  have := hD _ (rd39_mem l k hk)
  exact beats14_walk W n m rA wA rc wc fr (fun W' g' => hF W' (g.trans (g'.mono g.size))) hfb _ _ _ _ this.1 this.2 back)
 have HLC := Lib.hid hl
 have HX0 := Lib.hid (HBx.new w (.slice rA n rc) (.slice wA m wc))
 have HFIL : Hid (∀ i : Nat, i < l.length → (l.take (i + 1)).filter (fun b => !(l.any fun a => beatsG fr back a b)) = (l.take i).filter (fun b => !(l.any fun a => beatsG fr back a b)) ++ (if (!(l.any fun a => beatsG fr back a (rd_T37 l (i : Int)))) = true then [rd_T37 l (i : Int)] else [])) := Lib.hid (fun i h => take_ok _ i h)
 have HANY : Hid (∀ k i : Nat, k < l.length → (l.take (k + 1)).any (fun a => beatsG fr back a (rd_T37 l (i : Int))) = ((l.take k).any (fun a => beatsG fr back a (rd_T37 l (i : Int))) || beatsG fr back (rd_T37 l (k : Int)) (rd_T37 l (i : Int)))) := Lib.hid (fun k i h => any_ok _ k h)
 have HPG : Hid (pruneG fr back l = (l.take l.length).filter (fun b => !(l.any fun a => beatsG fr back a b))) := Lib.hid (by rw [List.take_length]; rfl)
 have HFLE : Hid (∀ i : Nat, ((l.take i).filter (fun b => !(l.any fun a => beatsG fr back a b))).length ≤ i) := Lib.hid (fun i => Nat.le_trans (List.length_filter_le _ _) (by simp; omega))
 have HTK : Hid (∀ i : Nat, (l.take l.length).any (fun a => beatsG fr back a (rd_T37 l (i : Int))) = l.any (fun a => beatsG fr back a (rd_T37 l (i : Int)))) := Lib.hid (fun i => by rw [List.take_length])
 obtain ⟨len, hlen⟩ : ∃ len, l.length = len := ⟨_, rfl⟩
 rw [hlen] at HBT HLC HFIL HANY HPG HTK hll ⊢
 clear hl hD hF hfb hlen
 obtain ⟨c0, c1, l0⟩ := HX0.out.cells
 go_enter Tryz.func102, Tryz.ntmps102
 go_wp2_with fail
 generalize w.alloc (.cells #[.slice rA n rc, .slice wA m wc] 31) = W1 at *
 go_loopw [7, 8] (fun v7 v8 wr => ∃ i : Nat, v8 = .int .i64 i ∧ i ≤ len ∧ Hid (Kd.R k37 37 wr W1.heap.size (fun _ => True) v7 ((l.take i).filter (fun b => !(l.any fun a => beatsG fr back a b)))) ∧ Hid (Below W1.heap.size W1 wr)) (fun _ v8 _ => len - (intOf v8).toNat)
 case atStart => exact ⟨0, rfl, by omega, Lib.hid (Kd.R_nil _ _ _ _ _), Lib.hid (Below.refl _ _)⟩
 case round =>
  obtain ⟨i, rfl, hi, HR, HB⟩ := hrel
  clear c0 c1 l0
  by_cases hlt : i < len
  rotate_left
  ·have hin : len ≤ i := by omega
   have HIN : Hid (i = len) := Lib.hid (by omega)
   go_wp2_with fail
   go_ret
   exact ⟨_, rfl, by rw [HPG.out, ← HIN.out]; exact Kd.R_lower HR.out HX0.out.bel.size, (HX0.out.below HB.out).bel⟩
  have hi0 : (0 : Int) ≤ (i : Int) := Int.natCast_nonneg _
  have hi1 : (i : Int) < (len : Int) := by omega
  generalize wr = wo at *
  go_wp2_with fail
  go_loopw [9, 10] (fun v9 v10 wk => ∃ (m1 : Bool) (k : Nat), v9 = .bool m1 ∧ v10 = .int .i64 k ∧ k ≤ len ∧ Hid (Below wo.heap.size wo wk) ∧ Hid (m1 = (l.take k).any (fun a => beatsG fr back a (rd_T37 l (i : Int))))) (fun _ v10 _ => len - (intOf v10).toNat)
  case atStart => exact ⟨false, 0, rfl, rfl, by omega, Lib.hid (Below.refl _ _), Lib.hid rfl⟩
  case round =>
   obtain ⟨m1, k, rfl, rfl, hk, HGk, HM⟩ := hrel
   have HX := Lib.hid ((HX0.out.below HB.out).below HGk.out)
   have HLW : Hid (∀ W, Below wr.heap.size wr W → Below w.heap.size w W) := Lib.hid (fun W g => (HX.out.below g).bel)
   obtain ⟨c0, c1, l0⟩ := HX.out.cells
   by_cases hkt : k < len
   ·have hk0 : (0 : Int) ≤ (k : Int) := Int.natCast_nonneg _
    have hk1 : (k : Int) < (len : Int) := by omega
    obtain ⟨al, hAl, p0, p1⟩ := at_T37 (Kd.C_below HLC.out HX.out.bel) (k : Int) (by omega) (by omega)
    obtain ⟨al', hAl', q0, q1⟩ := at_T37 (Kd.C_below HLC.out HX.out.bel) (i : Int) (by omega) (by omega)
    rw [hAl] at hAl'
    obtain rfl := Option.some.inj hAl'
    have HCE : Hid (∀ W, Below wr.heap.size wr W → (W.cell? ⟨w.heap.size, 0, none⟩ = some (.slice rA n rc) ∧ W.cell? ⟨w.heap.size, 1, none⟩ = some (.slice wA m wc)) ∧ (W.cell? (al.add (k * 2)) = some (.int .i64 (rd_T37 l (k : Int)).f0) ∧ W.cell? ⟨(al.add (k * 2)).block, (al.add (k * 2)).off + 1, none⟩ = some (.int .i64 (rd_T37 l (k : Int)).f1)) ∧ (W.cell? (al.add (i * 2)) = some (.int .i64 (rd_T37 l (i : Int)).f0) ∧ W.cell? ⟨(al.add (i * 2)).block, (al.add (i * 2)).off + 1, none⟩ = some (.int .i64 (rd_T37 l (i : Int)).f1))) := Lib.hid (fun W g => by
     obtain ⟨a1, e1, x0, x1⟩ := at_T37 (Kd.C_below HLC.out (HLW.out W g)) (k : Int) (by omega) (by omega)
     obtain ⟨a2, e2, y0, y1⟩ := at_T37 (Kd.C_below HLC.out (HLW.out W g)) (i : Int) (by omega) (by omega)
     rw [hAl] at e1 e2
     cases e1
     cases e2
     simp only [Int.toNat_natCast] at x0 x1 y0 y1
     exact ⟨⟨(HX.out.below g).cells.1, (HX.out.below g).cells.2.1⟩, ⟨x0, x1⟩, ⟨y0, y1⟩⟩)
    subst hAl
    clear hAl'
    simp only [Int.toNat_natCast] at p0 p1 q0 q1
    have HAN := Lib.hid (HANY.out k i hkt)
    have HBK : Hid (∀ W, Below w.heap.size w W → Calls Tryz.prog 129 #[.agg #[.slice rA n rc, .slice wA m wc], .agg #[.int .i64 (rd_T37 l (k : Int)).f0, .int .i64 (rd_T37 l (k : Int)).f1], .agg #[.int .i64 (rd_T37 l (i : Int)).f0, .int .i64 (rd_T37 l (i : Int)).f1], .bool back] W fun r w' => r = .returned (.bool (beatsG fr back (rd_T37 l (k : Int)) (rd_T37 l (i : Int)))) ∧ Below W.heap.size W w') := Lib.hid (fun W g => HBT.out W g k i hkt)
    rw [← HM.out] at HAN
    obtain ⟨bt, hbt⟩ : ∃ bt, beatsG fr back (rd_T37 l (k : Int)) (rd_T37 l (i : Int)) = bt := ⟨_, rfl⟩
    rw [hbt] at HAN HBK
    clear hbt
    obtain ⟨kf0, hkf0⟩ : ∃ z, (rd_T37 l (k : Int)).f0 = z := ⟨_, rfl⟩
    obtain ⟨kf1, hkf1⟩ : ∃ z, (rd_T37 l (k : Int)).f1 = z := ⟨_, rfl⟩
    obtain ⟨if0, hif0⟩ : ∃ z, (rd_T37 l (i : Int)).f0 = z := ⟨_, rfl⟩
    obtain ⟨if1, hif1⟩ : ∃ z, (rd_T37 l (i : Int)).f1 = z := ⟨_, rfl⟩
    rw [hkf0] at p0 HCE HBK
    rw [hkf1] at p1 HCE HBK
    rw [hif0] at q0 HCE HBK
    rw [hif1] at q1 HCE HBK
    clear hkf0 hkf1 hif0 hif1
    go_upto_region 9 with fail
    cases m1 with
    | true =>
     have HAN' : Hid (true = (l.take (k + 1)).any (fun a => beatsG fr back a (rd_T37 l (i : Int)))) := Lib.hid (by rw [HAN.out]; rfl)
     refine start_ (n := 15) (S := fun w' => w'.cell? ⟨w.heap.size, 0, none⟩ = some (.slice rA n rc) ∧ w'.cell? ⟨w.heap.size, 1, none⟩ = some (.slice wA m wc) ∧ w'.cell? (al.add (k * 2)) = some (.int .i64 kf0) ∧ w'.cell? ⟨(al.add (k * 2)).block, (al.add (k * 2)).off + 1, none⟩ = some (.int .i64 kf1) ∧ w'.cell? (al.add (i * 2)) = some (.int .i64 if0) ∧ w'.cell? ⟨(al.add (i * 2)).block, (al.add (i * 2)).off + 1, none⟩ = some (.int .i64 if1)) (ds := []) (bA_ 15 0) (by kernel_rfl) rfl rfl ⟨c0, c1, p0, p1, q0, q1⟩ (fun hHeld => ?_)
     refine p2_ 0 23 (bA_ 15 1) ?_
     refine p2_ 1 24 (bA_ 15 3) ?_
     refine pu2_ 2 25 (bA_ 15 7) ?_
     refine pu2_ 3 26 (bA_ 15 15) ?_
     refine pu2_ 4 27 (bA_ 15 31) ?_
     refine pu2_ 5 28 (bA_ 15 63) ?_
     refine pu2_ 6 29 (bA_ 15 127) ?_
     refine pu2_ 7 30 (bA_ 15 255) ?_
     refine pu2_ 8 31 (bA_ 15 511) ?_
     refine pu2_ 9 32 (bA_ 15 1023) ?_
     refine pu2_ 10 33 (bA_ 15 2047) ?_
     refine pu2_ 11 34 (bA_ 15 4095) ?_
     refine pu2_ 12 35 (bA_ 15 8191) ?_
     refine p2_ 13 36 (bA_ 15 16383) ?_
     refine p2_ 14 9 (bA_ 15 32767) ?_
     refine done_ (by kernel_rfl) ?_
     all_goals (try go_wp2_with fail)
     go_roundw
     case measure => simp [intOf]; omega
     case rel => exact ⟨true, k + 1, rfl, by go_num, by omega, Lib.hid HGk.out.drew, HAN'⟩
    | false =>
     have HAN' : Hid (bt = (l.take (k + 1)).any (fun a => beatsG fr back a (rd_T37 l (i : Int)))) := Lib.hid (by rw [HAN.out]; rfl)
     refine start_ (n := 15) (S := fun w' => w'.cell? ⟨w.heap.size, 0, none⟩ = some (.slice rA n rc) ∧ w'.cell? ⟨w.heap.size, 1, none⟩ = some (.slice wA m wc) ∧ w'.cell? (al.add (k * 2)) = some (.int .i64 kf0) ∧ w'.cell? ⟨(al.add (k * 2)).block, (al.add (k * 2)).off + 1, none⟩ = some (.int .i64 kf1) ∧ w'.cell? (al.add (i * 2)) = some (.int .i64 if0) ∧ w'.cell? ⟨(al.add (i * 2)).block, (al.add (i * 2)).off + 1, none⟩ = some (.int .i64 if1)) (ds := []) (bA_ 15 0) (by kernel_rfl) rfl rfl ⟨c0, c1, p0, p1, q0, q1⟩ (fun hHeld => ?_)
     refine p2_ 0 23 (bA_ 15 1) ?_
     refine p2_ 1 24 (bA_ 15 3) ?_
     refine p2_ 3 26 (bA_ 15 11) ?_
     refine p2_ 4 27 (bA_ 15 27) ?_
     refine p2_ 5 28 (bA_ 15 59) ?_
     refine p2_ 7 30 (bA_ 15 187) ?_
     refine p2_ 8 31 (bA_ 15 443) ?_
     refine p2_ 9 32 (bA_ 15 955) ?_
     refine p2_ 11 34 (bA_ 15 3003) ?_
     refine t2_ 2 25 (bA_ 15 3007) hHeld ?_ (hy := by rintro w' ⟨s0, s1, s2, s3, s4, s5⟩; go_simp; with_reducible rfl)
     refine t2_ 6 29 (bA_ 15 3071) hHeld ?_ (hy := by rintro w' ⟨s0, s1, s2, s3, s4, s5⟩; go_simp; with_reducible rfl)
     refine t2_ 10 33 (bA_ 15 4095) hHeld ?_ (hy := by rintro w' ⟨s0, s1, s2, s3, s4, s5⟩; go_simp; with_reducible rfl)
     refine o2_ 12 35 (bA_ 15 8191) (fun K hK => ?_)
     refine g2_ Tryz.func129 #[.agg #[.slice rA n rc, .slice wA m wc], .agg #[.int .i64 kf0, .int .i64 kf1], .agg #[.int .i64 if0, .int .i64 if1], .bool back] ?_
     with_reducible refine (HBK.out _ (HLW.out _ ((Below.refl _ _).drew))).mono ?_
     rintro e w3 ⟨rfl, g3⟩
     refine ⟨_, rfl, ?_⟩
     have HGX : Hid (Below wr.heap.size wr w3) := Lib.hid (((Below.refl _ _).drew).trans g3)
     refine hK.out _ _ ⟨(HCE.out _ HGX.out).1.1, (HCE.out _ HGX.out).1.2, (HCE.out _ HGX.out).2.1.1, (HCE.out _ HGX.out).2.1.2, (HCE.out _ HGX.out).2.2.1, (HCE.out _ HGX.out).2.2.2⟩ (fun hHeld => ?_)
     clear hK K
     refine n2_ 35 ?_
     refine p2_ 13 36 (bA_ 15 16383) ?_
     refine p2_ 14 9 (bA_ 15 32767) ?_
     refine done_ (by kernel_rfl) ?_
     all_goals (try go_wp2_with fail)
     go_roundw
     case measure => simp [intOf]; omega
     case rel => exact ⟨bt, k + 1, rfl, by go_num, by omega, Lib.hid (HGk.out.trans (HGX.out.mono HGk.out.size)), HAN'⟩
   ·have hin : len ≤ k := by omega
    have HKN : Hid (k = len) := Lib.hid (by omega)
    have HM2 : Hid (m1 = l.any (fun a => beatsG fr back a (rd_T37 l (i : Int)))) := Lib.hid (by rw [HM.out, HKN.out]; exact HTK.out i)
    have HF2 := Lib.hid (HFIL.out i hlt)
    rw [← HM2.out] at HF2
    have HB2 := Lib.hid (HB.out.trans (HGk.out.mono HB.out.size))
    have HR2 := Lib.hid (Kd.R_below HR.out HGk.out)
    have hs2 : W1.heap.size ≤ wr.heap.size := HB2.out.size
    obtain ⟨al, hAl, q0, q1⟩ := at_T37 (Kd.C_below HLC.out HX.out.bel) (i : Int) (by omega) (by omega)
    subst hAl
    simp only [Int.toNat_natCast] at q0 q1
    have hfl := HFLE.out i
    generalize rd_T37 l (i : Int) = z at *
    obtain ⟨zv, zd⟩ := z
    simp only at q0 q1
    cases m1 with
    | true =>
     go_wp2_with fail
     go_roundw
     case measure => simp [intOf]; omega
     case rel => exact ⟨i + 1, by go_num, by omega, Lib.hid (by rw [HF2.out]; simpa using HR2.out), HB2⟩
    | false =>
     go_wp2_with (at_builtin; refine Kd.R_append k37 (w0 := W1) (W := wr) W1.heap.size rfl (.tmp 39) (.tmp 44) 33 37 (.agg #[(.int .i64 0), (.int .i64 0)]) 16 rfl Tryz.underlying33 info37 rfl (by decide) (by omega) _ ((l.take i).filter (fun b => !(l.any fun a => beatsG fr back a b))) (⟨zv, zd⟩ : S37) [.int .i64 zv, .int .i64 zd] (fun _ => True) (fun _ => False) rfl rfl (k37_mkM _ _ _ _) (fun _ h => h.elim) (fun _ _ => trivial) HR2.out HB2.out hs2 (by omega) ?_; intro v1 w2 hR2 hB2 _ _; have HR3 := Lib.hid hR2; have HB3 := Lib.hid hB2; clear hR2 hB2)
     go_roundw
     case measure => simp [intOf]; omega
     case rel => exact ⟨i + 1, by go_num, by omega, Lib.hid (by rw [HF2.out]; exact HR3.out), HB3⟩
set_option maxRecDepth 100000 in
set_option maxHeartbeats 4000000 in
theorem of14_walk (w : World) (n m : Nat) (rA wA : Option Addr) (rc wc : Nat) (back : Bool) (v k : Int) (l l' : List S37) (hll : l.length ≤ 1000)
  (hR : ∀ W, Below w.heap.size w W → Calls Tryz.prog 103 #[.agg #[.slice rA n rc, .slice wA m wc], .int .i64 v, .int .i64 k, .bool back] W fun r w' => ∃ vr, r = .returned vr ∧ Kd.R k37 37 w' W.heap.size (fun _ => True) vr l ∧ Below W.heap.size W w')
  (hP : ∀ W, Below w.heap.size w W → ∀ (lA : Option Addr) (lc : Nat), Kd.C k37 W lA l.length l → Calls Tryz.prog 102 #[.agg #[.slice rA n rc, .slice wA m wc], .slice lA l.length lc, .bool back] W fun r w' => ∃ vr, r = .returned vr ∧ Kd.R k37 37 w' W.heap.size (fun _ => True) vr l' ∧ Below W.heap.size W w') :
  Calls Tryz.prog 49 #[.agg #[.slice rA n rc, .slice wA m wc], .int .i64 v, .int .i64 k, .bool back] w fun r w' => ∃ vr, r = .returned vr ∧ Kd.R k37 37 w' w.heap.size (fun _ => True) vr l' ∧ Below w.heap.size w w' := by
 have HR := Lib.hid hR
 have HP := Lib.hid hP
 have HX2 := Lib.hid (HBx.new w (.slice rA n rc) (.slice wA m wc))
 obtain ⟨len, hlen⟩ : ∃ len, l.length = len := ⟨_, rfl⟩
 have HLEN := Lib.hid hlen
 rw [hlen] at HP
 clear hR hP hlen hll
 obtain ⟨c0, c1, l0⟩ := HX2.out.cells
 go_enter Tryz.func49, Tryz.ntmps49
 go_wp2_with fail
 refine start_ (n := 9) (S := fun w' => w'.cell? ⟨w.heap.size, 0, none⟩ = some (.slice rA n rc) ∧ w'.cell? ⟨w.heap.size, 1, none⟩ = some (.slice wA m wc)) (ds := []) (bA_ 9 0) (by kernel_rfl) rfl rfl ⟨c0, c1⟩ (fun hHeld => ?_)
 refine p2_ 2 11 (bA_ 9 4) ?_
 refine p2_ 3 12 (bA_ 9 12) ?_
 refine p2_ 4 13 (bA_ 9 28) ?_
 refine p2_ 6 15 (bA_ 9 92) ?_
 refine t2_ 0 9 (bA_ 9 93) hHeld ?_ (hy := by rintro w' ⟨s0, s1⟩; go_simp; with_reducible rfl)
 refine t2_ 1 10 (bA_ 9 95) hHeld ?_ (hy := by rintro w' ⟨s0, s1⟩; go_simp; with_reducible rfl)
 refine o2_ 5 14 (bA_ 9 127) (fun K hK => ?_)
 refine g2_ Tryz.func103 #[.agg #[.slice rA n rc, .slice wA m wc], .int .i64 v, .int .i64 k, .bool back] ?_
 with_reducible refine (HR.out _ HX2.out.bel.drew).mono ?_
 rintro e w3 ⟨v3, rfl, hR3, g3⟩
 refine ⟨_, rfl, ?_⟩
 have HX3 := Lib.hid ((HX2.out.below (Below.refl _ _).drew).below g3)
 obtain ⟨A1, k1, rfl, hk1, hC1⟩ := Kd.R_reads hR3
 have HC1 := Lib.hid hC1
 rw [HLEN.out] at HC1
 rw [HLEN.out]
 clear hR3 hC1 g3
 refine hK.out _ _ ⟨HX3.out.cells.1, HX3.out.cells.2.1⟩ (fun hHeld => ?_)
 clear hK K
 refine n2_ 14 ?_
 refine o2_ 7 16 (bA_ 9 255) (fun K hK => ?_)
 refine g2_ Tryz.func102 #[.agg #[.slice rA n rc, .slice wA m wc], .slice A1 len k1, .bool back] ?_
 with_reducible refine (HP.out _ HX3.out.bel A1 k1 HC1.out).mono ?_
 rintro e w4 ⟨vr, rfl, hR4, g4⟩
 refine ⟨_, rfl, ?_⟩
 have HX4 := Lib.hid (HX3.out.below g4)
 have HX4s := Lib.hid HX3.out.bel.size
 have HR4 := Lib.hid hR4
 clear hR4 g4
 refine hK.out _ _ ⟨HX4.out.cells.1, HX4.out.cells.2.1⟩ (fun hHeld => ?_)
 clear hK K
 refine n2_ 16 ?_
 refine p2_ 8 8 (bA_ 9 511) ?_
 refine done_ (by kernel_rfl) ?_
 all_goals (try go_wp2_with fail)
 all_goals go_ret
 all_goals exact ⟨vr, rfl, Kd.R_lower HR4.out HX4s.out, HX4.out.bel⟩
end Go.Proofs.YtfkejflmhidnaaaGreat.PAll
