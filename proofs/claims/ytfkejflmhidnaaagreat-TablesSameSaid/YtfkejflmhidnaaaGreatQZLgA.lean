import Derived.Test.YtfkejflmhidnaaaGreatQZEqA
set_option linter.all false
namespace Go.Proofs.YtfkejflmhidnaaaGreat.PAll
open RowKit YW.PrintWords YW.PrintLast YW.PrintMore
open Hp hiding Good
def addL {α : Type} (z : Int) (l : List (List α)) : Int := l.foldl (fun z r => IntKind.i64.wrap (z + (r.length : Int))) z
def long0 (t : TabP) : Int := IntKind.i64.wrap (IntKind.i64.wrap (IntKind.i64.wrap (IntKind.i64.wrap (IntKind.i64.wrap ((t.g.length : Int) + (t.far.length : Int)) + (t.out.length : Int)) + (t.inn.length : Int)) + (t.so.length : Int)) + (t.si.length : Int))
def longT (t : TabP) : Int := addL (addL (addL (addL (addL (long0 t) t.far) t.out) t.inn) t.so) t.si
theorem addL_take {α : Type} (z : Int) (l : List (List α)) (i : Nat) (h : i < l.length) : addL z (l.take (i + 1)) = IntKind.i64.wrap (addL z (l.take i) + (l[i].length : Int)) := by
 unfold addL
 rw [List.take_succ_eq_append_getElem h, List.foldl_append]
 rfl
set_option maxRecDepth 100000 in
set_option maxHeartbeats 8000000 in
theorem longT_walk (w : World) (a : TabAt) (t : TabP) (hT : TabC w a t) : Calls Tryz.prog 28 #[.agg (a.cells t)] w fun r w' => r = .returned (.int .i64 (longT t)) ∧ Below w.heap.size w w' := by
 obtain ⟨A0, c0, A1, c1, A2, c2, A3, c3, A4, c4, A5, c5⟩ := a
 have HX1 := Lib.hid (laterII hT.far)
 have HS1 : Hid (∀ (z : Int) (i : Nat), i < t.far.length → addL z (t.far.take (i + 1)) = IntKind.i64.wrap (addL z (t.far.take i) + ((rd_L5 t.far (i : Int)).length : Int))) := Lib.hid (fun z i h => by rw [addL_take z t.far i h, rdL5_get h])
 have HF1 : Hid (∀ z : Int, addL z (t.far.take t.far.length) = addL z t.far) := Lib.hid (fun z => by rw [List.take_length])
 have hl1 := hT.far.2.1
 have HX2 := Lib.hid (laterRR hT.out)
 have HS2 : Hid (∀ (z : Int) (i : Nat), i < t.out.length → addL z (t.out.take (i + 1)) = IntKind.i64.wrap (addL z (t.out.take i) + ((rd_L7 t.out (i : Int)).length : Int))) := Lib.hid (fun z i h => by rw [addL_take z t.out i h, rdL7_get h])
 have HF2 : Hid (∀ z : Int, addL z (t.out.take t.out.length) = addL z t.out) := Lib.hid (fun z => by rw [List.take_length])
 have hl2 := hT.out.2.1
 have HX3 := Lib.hid (laterRR hT.inn)
 have HS3 : Hid (∀ (z : Int) (i : Nat), i < t.inn.length → addL z (t.inn.take (i + 1)) = IntKind.i64.wrap (addL z (t.inn.take i) + ((rd_L7 t.inn (i : Int)).length : Int))) := Lib.hid (fun z i h => by rw [addL_take z t.inn i h, rdL7_get h])
 have HF3 : Hid (∀ z : Int, addL z (t.inn.take t.inn.length) = addL z t.inn) := Lib.hid (fun z => by rw [List.take_length])
 have hl3 := hT.inn.2.1
 have HX4 := Lib.hid (laterII hT.so)
 have HS4 : Hid (∀ (z : Int) (i : Nat), i < t.so.length → addL z (t.so.take (i + 1)) = IntKind.i64.wrap (addL z (t.so.take i) + ((rd_L5 t.so (i : Int)).length : Int))) := Lib.hid (fun z i h => by rw [addL_take z t.so i h, rdL5_get h])
 have HF4 : Hid (∀ z : Int, addL z (t.so.take t.so.length) = addL z t.so) := Lib.hid (fun z => by rw [List.take_length])
 have hl4 := hT.so.2.1
 have HX5 := Lib.hid (laterII hT.si)
 have HS5 : Hid (∀ (z : Int) (i : Nat), i < t.si.length → addL z (t.si.take (i + 1)) = IntKind.i64.wrap (addL z (t.si.take i) + ((rd_L5 t.si (i : Int)).length : Int))) := Lib.hid (fun z i h => by rw [addL_take z t.si i h, rdL5_get h])
 have HF5 : Hid (∀ z : Int, addL z (t.si.take t.si.length) = addL z t.si) := Lib.hid (fun z => by rw [List.take_length])
 have hl5 := hT.si.2.1
 have HLP : Hid (∀ z1 z2 z3 z4 z5 : Int, addL (long0 t) t.far = z1 → addL z1 t.out = z2 → addL z2 t.inn = z3 → addL z3 t.so = z4 → addL z4 t.si = z5 → longT t = z5) := Lib.hid (fun z1 z2 z3 z4 z5 h1 h2 h3 h4 h5 => by subst h1 h2 h3 h4 h5; rfl)
 obtain ⟨s0, hs0⟩ : ∃ s, long0 t = s := ⟨_, rfl⟩
 have hs := hs0
 unfold long0 at hs
 rw [hs0] at HLP
 simp only [TabAt.cells]
 clear hT hs0
 generalize t.g.length = l0 at *
 generalize t.far.length = l1 at *
 generalize t.out.length = l2 at *
 generalize t.inn.length = l3 at *
 generalize t.so.length = l4 at *
 generalize t.si.length = l5 at *
 generalize t.far = x1 at *
 generalize t.out = x2 at *
 generalize t.inn = x3 at *
 generalize t.so = x4 at *
 generalize t.si = x5 at *
 generalize longT t = LP at *
 obtain ⟨q1, hq1⟩ : ∃ q, IntKind.i64.wrap ((l0 : Int) + (l1 : Int)) = q := ⟨_, rfl⟩
 rw [hq1] at hs
 obtain ⟨q2, hq2⟩ : ∃ q, IntKind.i64.wrap (q1 + (l2 : Int)) = q := ⟨_, rfl⟩
 rw [hq2] at hs
 obtain ⟨q3, hq3⟩ : ∃ q, IntKind.i64.wrap (q2 + (l3 : Int)) = q := ⟨_, rfl⟩
 rw [hq3] at hs
 obtain ⟨q4, hq4⟩ : ∃ q, IntKind.i64.wrap (q3 + (l4 : Int)) = q := ⟨_, rfl⟩
 rw [hq4] at hs
 have hba := blk_new w (.cells #[.slice A0 l0 c0, .slice A1 l1 c1, .slice A2 l2 c2, .slice A3 l3 c3, .slice A4 l4 c4, .slice A5 l5 c5] 46)
 have hB : Below w.heap.size w (w.alloc (.cells #[.slice A0 l0 c0, .slice A1 l1 c1, .slice A2 l2 c2, .slice A3 l3 c3, .slice A4 l4 c4, .slice A5 l5 c5] 46)) := (Below.refl _ _).alloc (Nat.le_refl _) _
 have HB0 := Lib.hid hB
 have HW : Hid (∃ W, w.alloc (.cells #[.slice A0 l0 c0, .slice A1 l1 c1, .slice A2 l2 c2, .slice A3 l3 c3, .slice A4 l4 c4, .slice A5 l5 c5] 46) = W) := Lib.hid ⟨_, rfl⟩
 go_enter Tryz.func28, Tryz.ntmps28
 go_upto_region 1 with fail
 generalize w.alloc (.cells #[.slice A0 l0 c0, .slice A1 l1 c1, .slice A2 l2 c2, .slice A3 l3 c3, .slice A4 l4 c4, .slice A5 l5 c5] 46) = W at *
 have HBB : Hid (∀ V, Below W.heap.size W V → w.heap.size < V.heap.size ∧ V.cell? ⟨w.heap.size, 0, none⟩ = some (.slice A0 l0 c0) ∧ V.cell? ⟨w.heap.size, 1, none⟩ = some (.slice A1 l1 c1) ∧ V.cell? ⟨w.heap.size, 2, none⟩ = some (.slice A2 l2 c2) ∧ V.cell? ⟨w.heap.size, 3, none⟩ = some (.slice A3 l3 c3) ∧ V.cell? ⟨w.heap.size, 4, none⟩ = some (.slice A4 l4 c4) ∧ V.cell? ⟨w.heap.size, 5, none⟩ = some (.slice A5 l5 c5)) := Lib.hid (fun V g => by
  have ha := (g.block _ (blk_lt hba)).trans hba
  exact ⟨blk_lt ha, (blk_cell ha 0).trans rfl, (blk_cell ha 1).trans rfl, (blk_cell ha 2).trans rfl, (blk_cell ha 3).trans rfl, (blk_cell ha 4).trans rfl, (blk_cell ha 5).trans rfl⟩)
 obtain ⟨b0, p0, p1, p2, p3, p4, p5⟩ := HBB.out W (Below.refl _ _)
 clear hba hB HW
 go_wp2_with fail
 clear b0 p0 p1 p2 p3 p4 p5
 go_loopw [3, 4] (fun v3 v wr => ∃ (i : Nat) (z : Int), v3 = .int .i64 z ∧ v = .int .i64 i ∧ i ≤ l1 ∧ Hid (addL s0 (x1.take i) = z) ∧ Hid (Below W.heap.size W wr)) (fun _ v _ => l1 - (intOf v).toNat)
 case atStart => exact ⟨0, _, rfl, rfl, by omega, Lib.hid rfl, Lib.hid (Below.refl _ _)⟩
 case round =>
  obtain ⟨i, z1, rfl, rfl, hi, HZ, HB1⟩ := hrel
  obtain ⟨b0, p0, p1, p2, p3, p4, p5⟩ := HBB.out wr HB1.out
  by_cases hlt : i < l1
  ·have hi0 : (0 : Int) ≤ (i : Int) := Int.natCast_nonneg _
   have hi1 : (i : Int) < (l1 : Int) := by omega
   obtain ⟨a, B, c, rfl, hx⟩ := HX1.out i hlt
   have x0 := (hx wr (HB0.out.trans (HB1.out.mono HB0.out.size))).1
   have HZN := Lib.hid (HS1.out s0 i hlt)
   rw [HZ.out] at HZN
   clear hx
   generalize (rd_L5 x1 (i : Int)).length = lp at *
   obtain ⟨z', hz'⟩ : ∃ z', IntKind.i64.wrap (z1 + (lp : Int)) = z' := ⟨_, rfl⟩
   rw [hz'] at HZN
   go_wp2_with fail
   go_roundw
   case measure => simp [intOf]; omega
   case rel => exact ⟨i + 1, z', rfl, by go_num, by omega, HZN, HB1⟩
  ·have hle : l1 ≤ i := by omega
   obtain rfl : i = l1 := by omega
   have HZ1 := Lib.hid ((HF1.out s0).symm.trans HZ.out)
   clear HZ
   go_wp2_with fail
   clear b0 p0 p1 p2 p3 p4 p5
   go_loopw [3, 5] (fun v3 v wr => ∃ (i : Nat) (z : Int), v3 = .int .i64 z ∧ v = .int .i64 i ∧ i ≤ l2 ∧ Hid (addL z1 (x2.take i) = z) ∧ Hid (Below W.heap.size W wr)) (fun _ v _ => l2 - (intOf v).toNat)
   case atStart => exact ⟨0, _, rfl, rfl, by omega, Lib.hid rfl, HB1⟩
   case round =>
    obtain ⟨i, z2, rfl, rfl, hi, HZ, HB2⟩ := hrel
    obtain ⟨b0, p0, p1, p2, p3, p4, p5⟩ := HBB.out wr HB2.out
    by_cases hlt : i < l2
    ·have hi0 : (0 : Int) ≤ (i : Int) := Int.natCast_nonneg _
     have hi1 : (i : Int) < (l2 : Int) := by omega
     obtain ⟨a, B, c, rfl, hx⟩ := HX2.out i hlt
     have x0 := (hx wr (HB0.out.trans (HB2.out.mono HB0.out.size))).1
     have HZN := Lib.hid (HS2.out z1 i hlt)
     rw [HZ.out] at HZN
     clear hx
     generalize (rd_L7 x2 (i : Int)).length = lp at *
     obtain ⟨z', hz'⟩ : ∃ z', IntKind.i64.wrap (z2 + (lp : Int)) = z' := ⟨_, rfl⟩
     rw [hz'] at HZN
     go_wp2_with fail
     go_roundw
     case measure => simp [intOf]; omega
     case rel => exact ⟨i + 1, z', rfl, by go_num, by omega, HZN, HB2⟩
    ·have hle : l2 ≤ i := by omega
     obtain rfl : i = l2 := by omega
     have HZ2 := Lib.hid ((HF2.out z1).symm.trans HZ.out)
     clear HZ
     go_wp2_with fail
     clear b0 p0 p1 p2 p3 p4 p5
     go_loopw [3, 6] (fun v3 v wr => ∃ (i : Nat) (z : Int), v3 = .int .i64 z ∧ v = .int .i64 i ∧ i ≤ l3 ∧ Hid (addL z2 (x3.take i) = z) ∧ Hid (Below W.heap.size W wr)) (fun _ v _ => l3 - (intOf v).toNat)
     case atStart => exact ⟨0, _, rfl, rfl, by omega, Lib.hid rfl, HB2⟩
     case round =>
      obtain ⟨i, z3, rfl, rfl, hi, HZ, HB3⟩ := hrel
      obtain ⟨b0, p0, p1, p2, p3, p4, p5⟩ := HBB.out wr HB3.out
      by_cases hlt : i < l3
      ·have hi0 : (0 : Int) ≤ (i : Int) := Int.natCast_nonneg _
       have hi1 : (i : Int) < (l3 : Int) := by omega
       obtain ⟨a, B, c, rfl, hx⟩ := HX3.out i hlt
       have x0 := (hx wr (HB0.out.trans (HB3.out.mono HB0.out.size))).1
       have HZN := Lib.hid (HS3.out z2 i hlt)
       rw [HZ.out] at HZN
       clear hx
       generalize (rd_L7 x3 (i : Int)).length = lp at *
       obtain ⟨z', hz'⟩ : ∃ z', IntKind.i64.wrap (z3 + (lp : Int)) = z' := ⟨_, rfl⟩
       rw [hz'] at HZN
       go_wp2_with fail
       go_roundw
       case measure => simp [intOf]; omega
       case rel => exact ⟨i + 1, z', rfl, by go_num, by omega, HZN, HB3⟩
      ·have hle : l3 ≤ i := by omega
       obtain rfl : i = l3 := by omega
       have HZ3 := Lib.hid ((HF3.out z2).symm.trans HZ.out)
       clear HZ
       go_wp2_with fail
       clear b0 p0 p1 p2 p3 p4 p5
       go_loopw [3, 7] (fun v3 v wr => ∃ (i : Nat) (z : Int), v3 = .int .i64 z ∧ v = .int .i64 i ∧ i ≤ l4 ∧ Hid (addL z3 (x4.take i) = z) ∧ Hid (Below W.heap.size W wr)) (fun _ v _ => l4 - (intOf v).toNat)
       case atStart => exact ⟨0, _, rfl, rfl, by omega, Lib.hid rfl, HB3⟩
       case round =>
        obtain ⟨i, z4, rfl, rfl, hi, HZ, HB4⟩ := hrel
        obtain ⟨b0, p0, p1, p2, p3, p4, p5⟩ := HBB.out wr HB4.out
        by_cases hlt : i < l4
        ·have hi0 : (0 : Int) ≤ (i : Int) := Int.natCast_nonneg _
         have hi1 : (i : Int) < (l4 : Int) := by omega
         obtain ⟨a, B, c, rfl, hx⟩ := HX4.out i hlt
         have x0 := (hx wr (HB0.out.trans (HB4.out.mono HB0.out.size))).1
         have HZN := Lib.hid (HS4.out z3 i hlt)
         rw [HZ.out] at HZN
         clear hx
         generalize (rd_L5 x4 (i : Int)).length = lp at *
         obtain ⟨z', hz'⟩ : ∃ z', IntKind.i64.wrap (z4 + (lp : Int)) = z' := ⟨_, rfl⟩
         rw [hz'] at HZN
         go_wp2_with fail
         go_roundw
         case measure => simp [intOf]; omega
         case rel => exact ⟨i + 1, z', rfl, by go_num, by omega, HZN, HB4⟩
        ·have hle : l4 ≤ i := by omega
         obtain rfl : i = l4 := by omega
         have HZ4 := Lib.hid ((HF4.out z3).symm.trans HZ.out)
         clear HZ
         go_wp2_with fail
         clear b0 p0 p1 p2 p3 p4 p5
         go_loopw [3, 8] (fun v3 v wr => ∃ (i : Nat) (z : Int), v3 = .int .i64 z ∧ v = .int .i64 i ∧ i ≤ l5 ∧ Hid (addL z4 (x5.take i) = z) ∧ Hid (Below W.heap.size W wr)) (fun _ v _ => l5 - (intOf v).toNat)
         case atStart => exact ⟨0, _, rfl, rfl, by omega, Lib.hid rfl, HB4⟩
         case round =>
          obtain ⟨i, z5, rfl, rfl, hi, HZ, HB5⟩ := hrel
          obtain ⟨b0, p0, p1, p2, p3, p4, p5⟩ := HBB.out wr HB5.out
          by_cases hlt : i < l5
          ·have hi0 : (0 : Int) ≤ (i : Int) := Int.natCast_nonneg _
           have hi1 : (i : Int) < (l5 : Int) := by omega
           obtain ⟨a, B, c, rfl, hx⟩ := HX5.out i hlt
           have x0 := (hx wr (HB0.out.trans (HB5.out.mono HB0.out.size))).1
           have HZN := Lib.hid (HS5.out z4 i hlt)
           rw [HZ.out] at HZN
           clear hx
           generalize (rd_L5 x5 (i : Int)).length = lp at *
           obtain ⟨z', hz'⟩ : ∃ z', IntKind.i64.wrap (z5 + (lp : Int)) = z' := ⟨_, rfl⟩
           rw [hz'] at HZN
           go_wp2_with fail
           go_roundw
           case measure => simp [intOf]; omega
           case rel => exact ⟨i + 1, z', rfl, by go_num, by omega, HZN, HB5⟩
          ·have hle : l5 ≤ i := by omega
           obtain rfl : i = l5 := by omega
           have HZ5 := Lib.hid ((HF5.out z4).symm.trans HZ.out)
           clear HZ
           go_wp2_with fail
           clear b0 p0 p1 p2 p3 p4 p5
           go_ret
           rw [HLP.out z1 z2 z3 z4 z5 HZ1.out HZ2.out HZ3.out HZ4.out HZ5.out]
           exact ⟨rfl, HB0.out.trans (HB5.out.mono HB0.out.size)⟩
end Go.Proofs.YtfkejflmhidnaaaGreat.PAll
