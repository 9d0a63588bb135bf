import Derived.Test.YtfkejflmhidnaaaGreatQClB
set_option linter.all false
namespace Go.Proofs.YtfkejflmhidnaaaGreat.PAll
open RowKit YtfkejflmhidnaaaGreatW.PrintWords YtfkejflmhidnaaaGreatW.PrintLast YtfkejflmhidnaaaGreatW.PrintMore
open Hp hiding Good
theorem all_walk (x : Int) (w : World) : Calls Tryz.prog 121 #[.int .i64 x] w fun r w' => r = .returned (.bool true) ∧ w = w' := by
 go_enter Tryz.func121, Tryz.ntmps121
 go_wp2
 go_ret
 exact ⟨rfl, rfl⟩
theorem lss_walk (x top : Int) (bt : Nat) (w : World) (ht : w.cell? ⟨bt, 0, none⟩ = some (.int .i64 top)) : Calls Tryz.prog 124 #[.int .i64 x, .pointer (some ⟨bt, 0, none⟩)] w fun r w' => r = .returned (.bool (decide (x < top))) ∧ w = w' := by
 go_enter Tryz.func124, Tryz.ntmps124
 go_wp2
 go_ret
 exact ⟨rfl, rfl⟩
theorem geq_walk (x top : Int) (bt : Nat) (w : World) (ht : w.cell? ⟨bt, 0, none⟩ = some (.int .i64 top)) : Calls Tryz.prog 125 #[.int .i64 x, .pointer (some ⟨bt, 0, none⟩)] w fun r w' => r = .returned (.bool (decide (top ≤ x))) ∧ w = w' := by
 go_enter Tryz.func125, Tryz.ntmps125
 go_wp2
 go_ret
 exact ⟨rfl, rfl⟩
structure RowsAt (w : World) (b3 b4 b5 hb n mb m : Nat) (h : HierP) (f : Int → Option Int) (mv : Value) : Prop where
 c3 : w.cell? ⟨b3, 0, none⟩ = some (.pointer (some ⟨hb, 0, none⟩))
 c4 : w.cell? ⟨b4, 0, none⟩ = some (.map (some mb))
 c5 : w.cell? ⟨b5, 0, none⟩ = some mv
 map : MapI w mb m f
 hier : HierRep w hb n h
 l3 : b3 < w.heap.size
 l4 : b4 < w.heap.size
 l5 : b5 < w.heap.size
theorem RowsAt.below {w w1 : World} {b3 b4 b5 hb n mb m : Nat} {h : HierP} {f : Int → Option Int} {mv : Value} (R : RowsAt w b3 b4 b5 hb n mb m h f mv) (g : Below w.heap.size w w1) : RowsAt w1 b3 b4 b5 hb n mb m h f mv :=
 ⟨(g.cell (p := ⟨b3, 0, none⟩) R.l3).trans R.c3, (g.cell (p := ⟨b4, 0, none⟩) R.l4).trans R.c4, (g.cell (p := ⟨b5, 0, none⟩) R.l5).trans R.c5, R.map.only (Only.of_below g (fun _ => False)) (fun f => f), R.hier.below g, Nat.lt_of_lt_of_le R.l3 g.size, Nat.lt_of_lt_of_le R.l4 g.size, Nat.lt_of_lt_of_le R.l5 g.size⟩
def rowVal (f : Int → Option Int) (p : Bool) (v : Int) : Value := .tuple #[.agg #[.int .i64 v, .int .i64 ((f v).getD 0)], .bool ((f v).isSome && p)]
set_option maxHeartbeats 2000000 in
theorem rows1_no (w : World) (b3 b4 b5 hb n mb m : Nat) (h : HierP) (f : Int → Option Int) (mv : Value) (p : Bool) (R : RowsAt w b3 b4 b5 hb n mb m h f mv) (v : Nat) (hv : v < n) (hf : f v = none) :
  Calls Tryz.prog 137 #[.int .i64 v, .pointer (some ⟨b4, 0, none⟩), .pointer (some ⟨b5, 0, none⟩), .pointer (some ⟨b3, 0, none⟩)] w fun r w' => r = .returned (rowVal f p v) ∧ Below w.heap.size w w' := by
 have hn := R.hier.small
 have c3 := R.c3
 have c4 := R.c4
 have l4 := R.l4
 have HR := Lib.hid R
 have HV : Hid (rowVal f p v = .tuple #[.agg #[.int .i64 v, .int .i64 0], .bool false]) := Lib.hid (by unfold rowVal; rw [hf]; rfl)
 have HF := Lib.hid hf
 clear R hf
 go_enter Tryz.func137, Tryz.ntmps137
 go_wp2_with (first | (at_lookup; refine mapI_none rfl (.tmp 10) (.tmp 11) rfl mb m f rfl (HR.out.map.only ((Only.refl w (fun _ => False)).alloc _) (fun f => f)) v rfl (wf64 (by omega) (by omega)) HF.out ?_))
 go_region
 go_wp2_with fail
 refine bodyPost_ret (v := .tuple #[.agg #[.int .i64 v, .int .i64 0], .bool false]) (by simp [results, Tryz.results137, go_sem]) rfl ⟨by rw [HV.out], ?_⟩
 exact ((Below.refl w.heap.size w).alloc (Nat.le_refl _) _).drew
set_option maxRecDepth 100000 in
set_option maxHeartbeats 2000000 in
theorem rows1_all (w : World) (b3 b4 b5 hb n mb m : Nat) (h : HierP) (f : Int → Option Int) (R : RowsAt w b3 b4 b5 hb n mb m h f (.func (.func 121) #[] #[])) (v : Nat) (hv : v < n) (d : Int) (hf : f v = some d) :
  Calls Tryz.prog 137 #[.int .i64 v, .pointer (some ⟨b4, 0, none⟩), .pointer (some ⟨b5, 0, none⟩), .pointer (some ⟨b3, 0, none⟩)] w fun r w' => r = .returned (rowVal f true v) ∧ Below w.heap.size w w' := by
 have hn := R.hier.small
 have c3 := R.c3
 have c4 := R.c4
 have c5 := R.c5
 have l3 := R.l3
 have l4 := R.l4
 have l5 := R.l5
 have HR := Lib.hid R
 have HV : Hid (rowVal f true v = .tuple #[.agg #[.int .i64 v, .int .i64 d], .bool true]) := Lib.hid (by unfold rowVal; rw [hf]; rfl)
 have HF := Lib.hid hf
 have n5 : b5 ≠ w.heap.size := by omega
 have n3 : b3 ≠ w.heap.size := by omega
 have n5' : w.heap.size ≠ b5 := by omega
 have n3' : w.heap.size ≠ b3 := by omega
 have HRK : Hid (∀ j, Calls Tryz.prog 138 #[.pointer (some ⟨hb, 0, none⟩), .int .i64 v] ((w.alloc (.cells #[.int .i64 0, .int .i64 0] 37)).drewN j) fun r w' => r = .returned (.int .i64 (rd h.rank v)) ∧ ((w.alloc (.cells #[.int .i64 0, .int .i64 0] 37)).drewN j) = w') :=
  Lib.hid (fun j => rank_walk _ hb n h (R.hier.below (pw_below_drewN ((Below.refl _ _).alloc (Nat.le_refl _) _) j)) v hv)
 clear R hf
 go_enter Tryz.func137, Tryz.ntmps137
 go_wp2_with (first | (at_lookup; refine mapI_some rfl (.tmp 10) (.tmp 11) rfl mb m f rfl (HR.out.map.only ((Only.refl w (fun _ => False)).alloc _) (fun f => f)) v d rfl (wf64 (by omega) (by omega)) HF.out ?_))
 go_region_held3 (fun w' => w'.cell? ⟨b5, 0, none⟩ = some (.func (.func 121) #[] #[]) ∧ w'.cell? ⟨b3, 0, none⟩ = some (.pointer (some ⟨hb, 0, none⟩))) (first | go_keep | (refine ⟨?_, ?_⟩ <;> (rw [World.cell?_setCell_other _ _ _ _ (by simp; omega), World.cell?_setCell_other _ _ _ _ (by simp; omega)]; assumption)) | (refine ⟨?_, ?_⟩ <;> (go_simp; done)))
  (first | (go_at_call 138; refine (HRK.out _).mono ?_; rintro e w' ⟨rfl, rfl⟩) | (go_at_call 121; refine (all_walk _ _).mono ?_; rintro e w' ⟨rfl, rfl⟩))
 all_goals (try go_wp2_with fail)
 refine bodyPost_ret (v := .tuple #[.agg #[.int .i64 v, .int .i64 d], .bool true]) (by simp [results, Tryz.results137, go_sem]) rfl ⟨by rw [HV.out], ?_⟩
 exact ((((((Only.refl w (fun k => w.heap.size ≤ k)).alloc _).drewN _).cell w.heap.size 0 _ (Nat.le_refl _)).cell w.heap.size 1 _ (Nat.le_refl _))).below (Nat.le_refl _) (fun _ h => h)
set_option maxRecDepth 100000 in
set_option maxHeartbeats 2000000 in
theorem rows1_lss (w : World) (b3 b4 b5 hb n mb m : Nat) (h : HierP) (f : Int → Option Int) (top : Int) (bt : Nat) (ht : w.cell? ⟨bt, 0, none⟩ = some (.int .i64 top)) (R : RowsAt w b3 b4 b5 hb n mb m h f (.func (.func 124) #[] #[.pointer (some ⟨bt, 0, none⟩)])) (v : Nat) (hv : v < n) (d : Int) (hf : f v = some d) :
  Calls Tryz.prog 137 #[.int .i64 v, .pointer (some ⟨b4, 0, none⟩), .pointer (some ⟨b5, 0, none⟩), .pointer (some ⟨b3, 0, none⟩)] w fun r w' => r = .returned (rowVal f (decide (rd h.rank v < top)) v) ∧ Below w.heap.size w w' := by
 have hn := R.hier.small
 have c3 := R.c3
 have c4 := R.c4
 have c5 := R.c5
 have l3 := R.l3
 have l4 := R.l4
 have l5 := R.l5
 have HR := Lib.hid R
 have HV : Hid (rowVal f (decide (rd h.rank v < top)) v = .tuple #[.agg #[.int .i64 v, .int .i64 d], .bool (decide (rd h.rank v < top))]) := Lib.hid (by unfold rowVal; rw [hf]; simp)
 have HF := Lib.hid hf
 have lt : bt < w.heap.size := World.block_lt_of_cell? w _ ht
 have nt : bt ≠ w.heap.size := by omega
 have nt' : w.heap.size ≠ bt := by omega
 have n5 : b5 ≠ w.heap.size := by omega
 have n3 : b3 ≠ w.heap.size := by omega
 have n5' : w.heap.size ≠ b5 := by omega
 have n3' : w.heap.size ≠ b3 := by omega
 have HRK : Hid (∀ j, Calls Tryz.prog 138 #[.pointer (some ⟨hb, 0, none⟩), .int .i64 v] ((w.alloc (.cells #[.int .i64 0, .int .i64 0] 37)).drewN j) fun r w' => r = .returned (.int .i64 (rd h.rank v)) ∧ ((w.alloc (.cells #[.int .i64 0, .int .i64 0] 37)).drewN j) = w') :=
  Lib.hid (fun j => rank_walk _ hb n h (R.hier.below (pw_below_drewN ((Below.refl _ _).alloc (Nat.le_refl _) _) j)) v hv)
 clear R hf
 go_enter Tryz.func137, Tryz.ntmps137
 go_wp2_with (first | (at_lookup; refine mapI_some rfl (.tmp 10) (.tmp 11) rfl mb m f rfl (HR.out.map.only ((Only.refl w (fun _ => False)).alloc _) (fun f => f)) v d rfl (wf64 (by omega) (by omega)) HF.out ?_))
 go_region_held3 (fun w' => w'.cell? ⟨b5, 0, none⟩ = some (.func (.func 124) #[] #[.pointer (some ⟨bt, 0, none⟩)]) ∧ w'.cell? ⟨b3, 0, none⟩ = some (.pointer (some ⟨hb, 0, none⟩)) ∧ w'.cell? ⟨bt, 0, none⟩ = some (.int .i64 top)) (first | go_keep | (refine ⟨?_, ?_, ?_⟩ <;> (rw [World.cell?_setCell_other _ _ _ _ (by simp; omega), World.cell?_setCell_other _ _ _ _ (by simp; omega)]; assumption)) | (refine ⟨?_, ?_, ?_⟩ <;> (go_simp; done)))
  (first | (go_at_call 138; refine (HRK.out _).mono ?_; rintro e w' ⟨rfl, rfl⟩) | (go_at_call 124; refine (lss_walk _ top bt _ (by first | assumption | (go_simp; done))).mono ?_; rintro e w' ⟨rfl, rfl⟩))
 all_goals (try go_wp2_with fail)
 refine bodyPost_ret (v := .tuple #[.agg #[.int .i64 v, .int .i64 d], .bool (decide (rd h.rank v < top))]) (by simp [results, Tryz.results137, go_sem]) rfl ⟨by rw [HV.out], ?_⟩
 exact ((((((Only.refl w (fun k => w.heap.size ≤ k)).alloc _).drewN _).cell w.heap.size 0 _ (Nat.le_refl _)).cell w.heap.size 1 _ (Nat.le_refl _))).below (Nat.le_refl _) (fun _ h => h)
set_option maxRecDepth 100000 in
set_option maxHeartbeats 2000000 in
theorem rows1_geq (w : World) (b3 b4 b5 hb n mb m : Nat) (h : HierP) (f : Int → Option Int) (top : Int) (bt : Nat) (ht : w.cell? ⟨bt, 0, none⟩ = some (.int .i64 top)) (R : RowsAt w b3 b4 b5 hb n mb m h f (.func (.func 125) #[] #[.pointer (some ⟨bt, 0, none⟩)])) (v : Nat) (hv : v < n) (d : Int) (hf : f v = some d) :
  Calls Tryz.prog 137 #[.int .i64 v, .pointer (some ⟨b4, 0, none⟩), .pointer (some ⟨b5, 0, none⟩), .pointer (some ⟨b3, 0, none⟩)] w fun r w' => r = .returned (rowVal f (decide (top ≤ rd h.rank v)) v) ∧ Below w.heap.size w w' := by
 have hn := R.hier.small
 have c3 := R.c3
 have c4 := R.c4
 have c5 := R.c5
 have l3 := R.l3
 have l4 := R.l4
 have l5 := R.l5
 have HR := Lib.hid R
 have HV : Hid (rowVal f (decide (top ≤ rd h.rank v)) v = .tuple #[.agg #[.int .i64 v, .int .i64 d], .bool (decide (top ≤ rd h.rank v))]) := Lib.hid (by unfold rowVal; rw [hf]; simp)
 have HF := Lib.hid hf
 have lt : bt < w.heap.size := World.block_lt_of_cell? w _ ht
 have nt : bt ≠ w.heap.size := by omega
 have nt' : w.heap.size ≠ bt := by omega
 have n5 : b5 ≠ w.heap.size := by omega
 have n3 : b3 ≠ w.heap.size := by omega
 have n5' : w.heap.size ≠ b5 := by omega
 have n3' : w.heap.size ≠ b3 := by omega
 have HRK : Hid (∀ j, Calls Tryz.prog 138 #[.pointer (some ⟨hb, 0, none⟩), .int .i64 v] ((w.alloc (.cells #[.int .i64 0, .int .i64 0] 37)).drewN j) fun r w' => r = .returned (.int .i64 (rd h.rank v)) ∧ ((w.alloc (.cells #[.int .i64 0, .int .i64 0] 37)).drewN j) = w') :=
  Lib.hid (fun j => rank_walk _ hb n h (R.hier.below (pw_below_drewN ((Below.refl _ _).alloc (Nat.le_refl _) _) j)) v hv)
 clear R hf
 go_enter Tryz.func137, Tryz.ntmps137
 go_wp2_with (first | (at_lookup; refine mapI_some rfl (.tmp 10) (.tmp 11) rfl mb m f rfl (HR.out.map.only ((Only.refl w (fun _ => False)).alloc _) (fun f => f)) v d rfl (wf64 (by omega) (by omega)) HF.out ?_))
 go_region_held3 (fun w' => w'.cell? ⟨b5, 0, none⟩ = some (.func (.func 125) #[] #[.pointer (some ⟨bt, 0, none⟩)]) ∧ w'.cell? ⟨b3, 0, none⟩ = some (.pointer (some ⟨hb, 0, none⟩)) ∧ w'.cell? ⟨bt, 0, none⟩ = some (.int .i64 top)) (first | go_keep | (refine ⟨?_, ?_, ?_⟩ <;> (rw [World.cell?_setCell_other _ _ _ _ (by simp; omega), World.cell?_setCell_other _ _ _ _ (by simp; omega)]; assumption)) | (refine ⟨?_, ?_, ?_⟩ <;> (go_simp; done)))
  (first | (go_at_call 138; refine (HRK.out _).mono ?_; rintro e w' ⟨rfl, rfl⟩) | (go_at_call 125; refine (geq_walk _ top bt _ (by first | assumption | (go_simp; done))).mono ?_; rintro e w' ⟨rfl, rfl⟩))
 all_goals (try go_wp2_with fail)
 refine bodyPost_ret (v := .tuple #[.agg #[.int .i64 v, .int .i64 d], .bool (decide (top ≤ rd h.rank v))]) (by simp [results, Tryz.results137, go_sem]) rfl ⟨by rw [HV.out], ?_⟩
 exact ((((((Only.refl w (fun k => w.heap.size ≤ k)).alloc _).drewN _).cell w.heap.size 0 _ (Nat.le_refl _)).cell w.heap.size 1 _ (Nat.le_refl _))).below (Nat.le_refl _) (fun _ h => h)
def rowsP (n : Nat) (f : Int → Option Int) (P : Nat → Bool) : List S37 := (List.range n).filterMap fun (v : Nat) => match f (v : Int) with
 | none => none
 | some d => if P v = true then some ⟨(v : Int), d⟩ else none
theorem rowsP_len (n : Nat) (f : Int → Option Int) (P : Nat → Bool) : (rowsP n f P).length ≤ n := by
 unfold rowsP
 have := List.length_filterMap_le (fun (v : Nat) => match f (v : Int) with
  | none => none
  | some d => if P v = true then some (⟨(v : Int), d⟩ : S37) else none) (List.range n)
 simpa using this
theorem rowsP_no {n : Nat} {f : Int → Option Int} {P : Nat → Bool} (h : ((f (n : Int)).isSome && P n) = false) : rowsP (n + 1) f P = rowsP n f P := by
 unfold rowsP
 rw [List.range_succ, List.filterMap_append]
 cases hf : f (n : Int) with
 | none => simp [hf]
 | some d => rw [hf] at h; simp at h; simp [hf, h]
theorem rowsP_yes {n : Nat} {f : Int → Option Int} {P : Nat → Bool} (h : ((f (n : Int)).isSome && P n) = true) : rowsP (n + 1) f P = rowsP n f P ++ [⟨(n : Int), (f (n : Int)).getD 0⟩] := by
 unfold rowsP
 rw [List.range_succ, List.filterMap_append]
 cases hf : f (n : Int) with
 | none => rw [hf] at h; simp at h
 | some d => rw [hf] at h; simp at h; simp [hf, h]
set_option maxRecDepth 100000 in
set_option maxHeartbeats 2000000 in
theorem gather_walk (w : World) (b3 b4 b5 n : Nat) (f : Int → Option Int) (P : Nat → Bool) (hn : n ≤ 900)
  (hc : ∀ w1, Below w.heap.size w w1 → ∀ v : Nat, v < n → Calls Tryz.prog 137 #[.int .i64 v, .pointer (some ⟨b4, 0, none⟩), .pointer (some ⟨b5, 0, none⟩), .pointer (some ⟨b3, 0, none⟩)] w1 fun r w' => r = .returned (rowVal f (P v) v) ∧ Below w1.heap.size w1 w') :
  Calls Tryz.prog 136 #[.int .i64 n, .func (.func 137) #[] #[.pointer (some ⟨b4, 0, none⟩), .pointer (some ⟨b5, 0, none⟩), .pointer (some ⟨b3, 0, none⟩)]] w fun r w' => ∃ vr, r = .returned vr ∧ Kd.R k37 37 w' w.heap.size (fun _ => True) vr (rowsP n f P) ∧ Below w.heap.size w w' := by
 have HC := Lib.hid hc
 clear hc
 go_enter Tryz.func136, Tryz.ntmps136
 go_wp2_with fail
 go_loopw [5, 10] (fun v5 v10 wr => ∃ i : Nat, v10 = .int .i64 i ∧ i ≤ n ∧ Hid (Kd.R k37 37 wr w.heap.size (fun _ => True) v5 (rowsP i f P)) ∧ Hid (Below w.heap.size w wr)) (fun _ v10 _ => n - (intOf v10).toNat)
 case atStart => exact ⟨0, rfl, by omega, Lib.hid (Kd.R_nil _ _ _ _ _), Lib.hid (Below.refl _ _)⟩
 case round =>
  obtain ⟨i, rfl, hi, HR, HB⟩ := hrel
  by_cases hlt : i < n
  ·have HCI : Hid (∃ b : Bool, ((f (i : Int)).isSome && P i) = b) := Lib.hid ⟨_, rfl⟩
   obtain ⟨b, hb⟩ := HCI.out
   have HBB := Lib.hid hb
   have HCC : Hid (Calls Tryz.prog 137 #[.int .i64 i, .pointer (some ⟨b4, 0, none⟩), .pointer (some ⟨b5, 0, none⟩), .pointer (some ⟨b3, 0, none⟩)] wr fun r w' => r = .returned (.tuple #[.agg #[.int .i64 i, .int .i64 ((f (i : Int)).getD 0)], .bool b]) ∧ Below wr.heap.size wr w') := Lib.hid (by
    refine (HC.out wr HB.out i hlt).mono ?_
    rintro e w' ⟨rfl, h⟩
    refine ⟨?_, h⟩
    unfold rowVal
    rw [hb])
   have hlen := rowsP_len i f P
   clear hb HCI
   generalize hd : (f (i : Int)).getD 0 = d at *
   have HD := Lib.hid hd
   clear hd
   cases b with
   | false =>
    go_wp2_with (first | (go_at_call 137; refine HCC.out.mono ?_; rintro e w1 ⟨rfl, hB1⟩; have HB1 := Lib.hid hB1; clear hB1))
    go_roundw
    case measure => simp [intOf]; omega
    case rel => exact ⟨i + 1, by go_num, by omega, Lib.hid (by rw [rowsP_no HBB.out]; exact Kd.R_alloc (Kd.R_below HR.out HB1.out) _), Lib.hid ((HB.out.trans (HB1.out.mono HB.out.size)).alloc (Nat.le_trans HB.out.size HB1.out.size) _)⟩
   | true =>
    go_wp2_with (first | (go_at_call 137; refine HCC.out.mono ?_; rintro e w1 ⟨rfl, hB1⟩; have HB1 := Lib.hid hB1; clear hB1) | (at_builtin; refine Kd.R_append k37 (w0 := w) (W := w1.alloc (.cells #[.int .i64 i, .int .i64 d] 37)) w.heap.size rfl (.tmp 20) (.tmp 22) 33 37 (.agg #[(.int .i64 0), (.int .i64 0)]) 16 rfl Tryz.underlying33 info37 rfl (by decide) (by omega) _ (rowsP i f P) (⟨(i : Int), d⟩ : S37) [.int .i64 i, .int .i64 d] (fun _ => True) (fun _ => False) rfl (by rw [World.size_alloc]; rfl) (k37_mkM _ _ _ _) (fun _ h => h.elim) (fun _ _ => trivial) (Kd.R_alloc (Kd.R_below HR.out HB1.out) _) ((HB.out.trans (HB1.out.mono HB.out.size)).alloc (Nat.le_trans HB.out.size HB1.out.size) _) (by have := HB.out.size; have := HB1.out.size; simp; omega) (by omega) ?_; intro v1 w2 hR2 hB2 _ _; have HR2 := Lib.hid hR2; have HB2 := Lib.hid hB2; clear hR2 hB2))
    go_roundw
    case measure => simp [intOf]; omega
    case rel => exact ⟨i + 1, by go_num, by omega, Lib.hid (by rw [rowsP_yes HBB.out, HD.out]; exact HR2.out), HB2⟩
  ·have hin : n ≤ i := by omega
   have HIN : Hid (i = n) := Lib.hid (by omega)
   go_wp2_with fail
   go_ret
   rw [HIN.out] at HR
   exact ⟨_, rfl, HR.out, HB.out⟩
theorem boxed (w : World) (hb mb n m : Nat) (h : HierP) (f : Int → Option Int) (mv : Value) (H : HierRep w hb n h) (M : MapI w mb m f) :
  RowsAt (((w.alloc (.cells #[.pointer (some ⟨hb, 0, none⟩)] 26)).alloc (.cells #[.map (some mb)] 166)).alloc (.cells #[mv] 88)) w.heap.size (w.heap.size + 1) (w.heap.size + 2) hb n mb m h f mv ∧
   Below w.heap.size w (((w.alloc (.cells #[.pointer (some ⟨hb, 0, none⟩)] 26)).alloc (.cells #[.map (some mb)] 166)).alloc (.cells #[mv] 88)) := by
 have g : Below w.heap.size w (((w.alloc (.cells #[.pointer (some ⟨hb, 0, none⟩)] 26)).alloc (.cells #[.map (some mb)] 166)).alloc (.cells #[mv] 88)) :=
  (((Below.refl w.heap.size w).alloc (Nat.le_refl _) _).alloc (by simp) _).alloc (by simp; omega) _
 have k0 := blk_new w (.cells #[.pointer (some ⟨hb, 0, none⟩)] 26)
 have k1 := blk_new (w.alloc (.cells #[.pointer (some ⟨hb, 0, none⟩)] 26)) (.cells #[.map (some mb)] 166)
 have k2 := blk_new ((w.alloc (.cells #[.pointer (some ⟨hb, 0, none⟩)] 26)).alloc (.cells #[.map (some mb)] 166)) (.cells #[mv] 88)
 have k0' := blk_alloc (blk_alloc k0 (.cells #[.map (some mb)] 166)) (.cells #[mv] 88)
 have k1' := blk_alloc k1 (.cells #[mv] 88)
 simp only [World.size_alloc] at k1 k1' k2
 refine ⟨⟨(blk_cell k0' 0).trans rfl, (blk_cell k1' 0).trans rfl, (blk_cell k2 0).trans rfl, M.only (Only.of_below g (fun _ => False)) (fun f => f), H.below g, blk_lt k0', blk_lt k1', blk_lt k2⟩, g⟩
set_option maxHeartbeats 1000000 in
theorem rows_all (w : World) (hb n mb m : Nat) (h : HierP) (f : Int → Option Int) (H : HierRep w hb n h) (M : MapI w mb m f) :
  Calls Tryz.prog 118 #[.pointer (some ⟨hb, 0, none⟩), .map (some mb), .func (.func 121) #[] #[]] w fun r w' => ∃ vr, r = .returned vr ∧ Kd.R k37 37 w' w.heap.size (fun _ => True) vr (rowsP n f (fun _ => true)) ∧ Below w.heap.size w w' := by
 obtain ⟨hR, hB⟩ := boxed w hb mb n m h f (.func (.func 121) #[] #[]) H M
 have hn := H.small
 have HN := Lib.hid (n_walk _ hb n h hR.hier)
 have HG := Lib.hid (gather_walk _ w.heap.size (w.heap.size + 1) (w.heap.size + 2) n f (fun _ => true) hn (fun w1 g v hv => by
  have R1 := hR.below g
  cases hf : f (v : Int) with
  | none => exact rows1_no w1 _ _ _ hb n mb m h f _ true R1 v hv hf
  | some d => exact rows1_all w1 _ _ _ hb n mb m h f R1 v hv d hf))
 have c3 := hR.c3
 have HB := Lib.hid hB
 clear hR hB H M
 go_enter Tryz.func118, Tryz.ntmps118
 go_wp2_with (first | (go_at_call 46; refine HN.out.mono ?_; rintro e w' ⟨rfl, rfl⟩) | (go_at_call 136; refine HG.out.mono ?_; rintro e w2 ⟨vr, rfl, hR2, hB2⟩; have HR2 := Lib.hid hR2; have HB2 := Lib.hid hB2; clear hR2 hB2))
 go_ret
 exact ⟨vr, rfl, Kd.R_lower HR2.out HB.out.size, HB.out.trans (HB2.out.mono HB.out.size)⟩
set_option maxHeartbeats 1000000 in
theorem rows_lss (w : World) (hb n mb m : Nat) (h : HierP) (f : Int → Option Int) (H : HierRep w hb n h) (M : MapI w mb m f) (top : Int) (bt : Nat) (ht : w.cell? ⟨bt, 0, none⟩ = some (.int .i64 top)) :
  Calls Tryz.prog 118 #[.pointer (some ⟨hb, 0, none⟩), .map (some mb), .func (.func 124) #[] #[.pointer (some ⟨bt, 0, none⟩)]] w fun r w' => ∃ vr, r = .returned vr ∧ Kd.R k37 37 w' w.heap.size (fun _ => True) vr (rowsP n f (fun v => decide (rd h.rank (v : Int) < top))) ∧ Below w.heap.size w w' := by
 obtain ⟨hR, hB⟩ := boxed w hb mb n m h f (.func (.func 124) #[] #[.pointer (some ⟨bt, 0, none⟩)]) H M
 have hn := H.small
 have hlt : bt < w.heap.size := World.block_lt_of_cell? w _ ht
 have HN := Lib.hid (n_walk _ hb n h hR.hier)
 have HG := Lib.hid (gather_walk _ w.heap.size (w.heap.size + 1) (w.heap.size + 2) n f (fun v => decide (rd h.rank (v : Int) < top)) hn (fun w1 g v hv => by
  have R1 := hR.below g
  cases hf : f (v : Int) with
  | none => exact rows1_no w1 _ _ _ hb n mb m h f _ _ R1 v hv hf
  | some d => exact rows1_lss w1 _ _ _ hb n mb m h f top bt ((g.cell (p := ⟨bt, 0, none⟩) (Nat.lt_of_lt_of_le hlt hB.size)).trans ((hB.cell (p := ⟨bt, 0, none⟩) hlt).trans ht)) R1 v hv d hf))
 have c3 := hR.c3
 have HB := Lib.hid hB
 clear hR hB H M
 go_enter Tryz.func118, Tryz.ntmps118
 go_wp2_with (first | (go_at_call 46; refine HN.out.mono ?_; rintro e w' ⟨rfl, rfl⟩) | (go_at_call 136; refine HG.out.mono ?_; rintro e w2 ⟨vr, rfl, hR2, hB2⟩; have HR2 := Lib.hid hR2; have HB2 := Lib.hid hB2; clear hR2 hB2))
 go_ret
 exact ⟨vr, rfl, Kd.R_lower HR2.out HB.out.size, HB.out.trans (HB2.out.mono HB.out.size)⟩
set_option maxHeartbeats 1000000 in
theorem rows_geq (w : World) (hb n mb m : Nat) (h : HierP) (f : Int → Option Int) (H : HierRep w hb n h) (M : MapI w mb m f) (top : Int) (bt : Nat) (ht : w.cell? ⟨bt, 0, none⟩ = some (.int .i64 top)) :
  Calls Tryz.prog 118 #[.pointer (some ⟨hb, 0, none⟩), .map (some mb), .func (.func 125) #[] #[.pointer (some ⟨bt, 0, none⟩)]] w fun r w' => ∃ vr, r = .returned vr ∧ Kd.R k37 37 w' w.heap.size (fun _ => True) vr (rowsP n f (fun v => decide (top ≤ rd h.rank (v : Int)))) ∧ Below w.heap.size w w' := by
 obtain ⟨hR, hB⟩ := boxed w hb mb n m h f (.func (.func 125) #[] #[.pointer (some ⟨bt, 0, none⟩)]) H M
 have hn := H.small
 have hlt : bt < w.heap.size := World.block_lt_of_cell? w _ ht
 have HN := Lib.hid (n_walk _ hb n h hR.hier)
 have HG := Lib.hid (gather_walk _ w.heap.size (w.heap.size + 1) (w.heap.size + 2) n f (fun v => decide (top ≤ rd h.rank (v : Int))) hn (fun w1 g v hv => by
  have R1 := hR.below g
  cases hf : f (v : Int) with
  | none => exact rows1_no w1 _ _ _ hb n mb m h f _ _ R1 v hv hf
  | some d => exact rows1_geq w1 _ _ _ hb n mb m h f top bt ((g.cell (p := ⟨bt, 0, none⟩) (Nat.lt_of_lt_of_le hlt hB.size)).trans ((hB.cell (p := ⟨bt, 0, none⟩) hlt).trans ht)) R1 v hv d hf))
 have c3 := hR.c3
 have HB := Lib.hid hB
 clear hR hB H M
 go_enter Tryz.func118, Tryz.ntmps118
 go_wp2_with (first | (go_at_call 46; refine HN.out.mono ?_; rintro e w' ⟨rfl, rfl⟩) | (go_at_call 136; refine HG.out.mono ?_; rintro e w2 ⟨vr, rfl, hR2, hB2⟩; have HR2 := Lib.hid hR2; have HB2 := Lib.hid hB2; clear hR2 hB2))
 go_ret
 exact ⟨vr, rfl, Kd.R_lower HR2.out HB.out.size, HB.out.trans (HB2.out.mono HB.out.size)⟩
def HierP.side (h : HierP) (back : Bool) : List (List S75) := if back = true then h.down else h.up
def lowP (n : Nat) (h : HierP) (v : Nat) (top : Int) (back : Bool) : List S37 := rowsP n (climbF n h.rank top (h.side back) v) (fun u => decide (rd h.rank (u : Int) < top))
def highP (n : Nat) (h : HierP) (v : Nat) (top : Int) (back : Bool) : List S37 := rowsP n (climbF n h.rank top (h.side back) v) (fun u => decide (top ≤ rd h.rank (u : Int)))
set_option maxHeartbeats 1000000 in
theorem within_walk (w : World) (hb n : Nat) (h : HierP) (wm : Int) (H : HierRep w hb n h) (hok : HOk n wm h) (v : Nat) (hv : v < n) (top : Int) (back : Bool) :
  Calls Tryz.prog 94 #[.pointer (some ⟨hb, 0, none⟩), .int .i64 v, .int .i64 top, .bool back] w fun r w' => ∃ v1 v2, r = .returned (.tuple #[v1, v2]) ∧ Kd.R k37 37 w' w.heap.size (fun _ => True) v1 (lowP n h v top back) ∧ Kd.R k37 37 w' w.heap.size (fun _ => True) v2 (highP n h v top back) ∧ Below w.heap.size w w' := by
 obtain ⟨w0, hw0⟩ : ∃ w0, w.alloc (.cells #[.int .i64 top] 3) = w0 := ⟨_, rfl⟩
 have B0 : Below w.heap.size w w0 := by rw [← hw0]; exact (Below.refl _ _).alloc (Nat.le_refl _) _
 have hs0 : w0.heap.size = w.heap.size + 1 := by rw [← hw0]; simp
 have bt0 : w0.heap[w.heap.size]? = some (.cells #[.int .i64 top] 3 (0, 0)) := by rw [← hw0]; exact blk_new w _
 have HC := Lib.hid (show Calls Tryz.prog 119 #[.pointer (some ⟨hb, 0, none⟩), .int .i64 v, .int .i64 top, .func (.func (if back = true then 122 else 120)) #[] #[]] w0 fun r w' => ∃ mb m, r = .returned (.map (some mb)) ∧ MapI w' mb m (climbF n h.rank top (h.side back) v) ∧ w0.heap.size ≤ mb ∧ Below w0.heap.size w0 w' from by
  cases back with
  | false => exact climb_up w0 hb n h wm (H.below B0) hok v hv top
  | true => exact climb_down w0 hb n h wm (H.below B0) hok v hv top)
 have HB0 := Lib.hid B0
 have HH := Lib.hid H
 have HS0 := Lib.hid hs0
 have HBT := Lib.hid bt0
 have HW0 := Lib.hid hw0
 unfold lowP highP
 clear H hok B0 hs0 bt0 hw0
 cases back with
 | false =>
  have c0 := (blk_cell HBT.out 0).trans rfl
  go_enter Tryz.func94, Tryz.ntmps94
  go_wp2_with fail
  rw [HW0.out]
  refine HC.out.mono ?_
  rintro e w1 ⟨mb, m, rfl, hM, hmb, hB1⟩
  have hlt0 : w.heap.size < w0.heap.size := by have := HS0.out; omega
  have c1 : w1.cell? ⟨w.heap.size, 0, none⟩ = some (.int .i64 top) := (hB1.cell (p := ⟨w.heap.size, 0, none⟩) hlt0).trans c0
  have hw1 : Below w.heap.size w w1 := HB0.out.trans (hB1.mono (by have := HS0.out; omega))
  have HM := Lib.hid hM
  have HW1 := Lib.hid hw1
  clear hM hmb hB1 c0 HC
  go_wp2_with fail
  refine (rows_lss w1 hb n mb m h _ (HH.out.below HW1.out) HM.out top w.heap.size c1).mono ?_
  rintro e w2 ⟨v1, rfl, hR2, hB2⟩
  have hlt1 : w.heap.size < w1.heap.size := World.block_lt_of_cell? w1 _ c1
  have c2 : w2.cell? ⟨w.heap.size, 0, none⟩ = some (.int .i64 top) := (hB2.cell (p := ⟨w.heap.size, 0, none⟩) hlt1).trans c1
  have HM2 := Lib.hid (HM.out.only (Only.of_below hB2 (fun _ => False)) (fun f => f))
  have HW2 := Lib.hid (HW1.out.trans (hB2.mono HW1.out.size))
  have HR2 := Lib.hid (Kd.R_lower hR2 HW1.out.size)
  clear hR2 hB2 c1 HM
  go_wp2_with fail
  refine (rows_geq w2 hb n mb m h _ (HH.out.below HW2.out) HM2.out top w.heap.size c2).mono ?_
  rintro e w3 ⟨v2, rfl, hR3, hB3⟩
  have HR3 := Lib.hid (Kd.R_lower hR3 HW2.out.size)
  have HR4 := Lib.hid (Kd.R_below HR2.out hB3)
  have HW3 := Lib.hid (HW2.out.trans (hB3.mono HW2.out.size))
  clear hR3 hB3
  go_wp2_with fail
  go_ret2
  exact ⟨v1, v2, rfl, HR4.out, HR3.out, HW3.out⟩
 | true =>
  have c0 := (blk_cell HBT.out 0).trans rfl
  go_enter Tryz.func94, Tryz.ntmps94
  go_wp2_with fail
  rw [HW0.out]
  refine HC.out.mono ?_
  rintro e w1 ⟨mb, m, rfl, hM, hmb, hB1⟩
  have hlt0 : w.heap.size < w0.heap.size := by have := HS0.out; omega
  have c1 : w1.cell? ⟨w.heap.size, 0, none⟩ = some (.int .i64 top) := (hB1.cell (p := ⟨w.heap.size, 0, none⟩) hlt0).trans c0
  have hw1 : Below w.heap.size w w1 := HB0.out.trans (hB1.mono (by have := HS0.out; omega))
  have HM := Lib.hid hM
  have HW1 := Lib.hid hw1
  clear hM hmb hB1 c0 HC
  go_wp2_with fail
  refine (rows_lss w1 hb n mb m h _ (HH.out.below HW1.out) HM.out top w.heap.size c1).mono ?_
  rintro e w2 ⟨v1, rfl, hR2, hB2⟩
  have hlt1 : w.heap.size < w1.heap.size := World.block_lt_of_cell? w1 _ c1
  have c2 : w2.cell? ⟨w.heap.size, 0, none⟩ = some (.int .i64 top) := (hB2.cell (p := ⟨w.heap.size, 0, none⟩) hlt1).trans c1
  have HM2 := Lib.hid (HM.out.only (Only.of_below hB2 (fun _ => False)) (fun f => f))
  have HW2 := Lib.hid (HW1.out.trans (hB2.mono HW1.out.size))
  have HR2 := Lib.hid (Kd.R_lower hR2 HW1.out.size)
  clear hR2 hB2 c1 HM
  go_wp2_with fail
  refine (rows_geq w2 hb n mb m h _ (HH.out.below HW2.out) HM2.out top w.heap.size c2).mono ?_
  rintro e w3 ⟨v2, rfl, hR3, hB3⟩
  have HR3 := Lib.hid (Kd.R_lower hR3 HW2.out.size)
  have HR4 := Lib.hid (Kd.R_below HR2.out hB3)
  have HW3 := Lib.hid (HW2.out.trans (hB3.mono HW2.out.size))
  clear hR3 hB3
  go_wp2_with fail
  go_ret2
  exact ⟨v1, v2, rfl, HR4.out, HR3.out, HW3.out⟩
def clipP (n : Nat) (k : Int) : Int := mx 0 (mn k n)
theorem clipP_in (n : Nat) (k : Int) : 0 ≤ clipP n k ∧ clipP n k ≤ n := by unfold clipP mx mn; omega
theorem ret_int {k : IntKind} {a b : Int} (h : a = b) : Ending.returned (.int k a) = Ending.returned (.int k b) := by rw [h]
theorem clip_walk (w : World) (hb n : Nat) (h : HierP) (H : HierRep w hb n h) (k : Int) : Calls Tryz.prog 95 #[.pointer (some ⟨hb, 0, none⟩), .int .i64 k] w fun r w' => r = .returned (.int .i64 (clipP n k)) ∧ w = w' := by
 have HN := Lib.hid (n_walk w hb n h H)
 clear H h
 by_cases h1 : (n : Int) < k
 ·by_cases h2 : (0 : Int) < (n : Int)
  ·go_enter Tryz.func95, Tryz.ntmps95
   go_wp2_with (first | (go_at_call 46; refine HN.out.mono ?_; rintro e w' ⟨rfl, rfl⟩))
   all_goals go_ret
   all_goals exact ⟨ret_int (by unfold clipP mx mn; repeat (first | omega | split)), rfl⟩
  ·go_enter Tryz.func95, Tryz.ntmps95
   go_wp2_with (first | (go_at_call 46; refine HN.out.mono ?_; rintro e w' ⟨rfl, rfl⟩))
   all_goals go_ret
   all_goals exact ⟨ret_int (by unfold clipP mx mn; repeat (first | omega | split)), rfl⟩
 ·by_cases h2 : (0 : Int) < k
  ·go_enter Tryz.func95, Tryz.ntmps95
   go_wp2_with (first | (go_at_call 46; refine HN.out.mono ?_; rintro e w' ⟨rfl, rfl⟩))
   all_goals go_ret
   all_goals exact ⟨ret_int (by unfold clipP mx mn; repeat (first | omega | split)), rfl⟩
  ·go_enter Tryz.func95, Tryz.ntmps95
   go_wp2_with (first | (go_at_call 46; refine HN.out.mono ?_; rintro e w' ⟨rfl, rfl⟩))
   all_goals go_ret
   all_goals exact ⟨ret_int (by unfold clipP mx mn; repeat (first | omega | split)), rfl⟩
def lowAt (n : Nat) (k : Int) : Int := n - clipP n k
theorem awithin_walk (w : World) (hb n : Nat) (h : HierP) (wm : Int) (H : HierRep w hb n h) (hok : HOk n wm h) (v : Nat) (hv : v < n) (k : Int) (back : Bool) :
  Calls Tryz.prog 42 #[.pointer (some ⟨hb, 0, none⟩), .int .i64 v, .int .i64 k, .bool back] w fun r w' => ∃ v1 v2, r = .returned (.tuple #[v1, v2]) ∧ Kd.R k37 37 w' w.heap.size (fun _ => True) v1 (lowP n h v (lowAt n k) back) ∧ Kd.R k37 37 w' w.heap.size (fun _ => True) v2 (highP n h v (lowAt n k) back) ∧ Below w.heap.size w w' := by
 have HN := Lib.hid (n_walk w hb n h H)
 have HK := Lib.hid (clip_walk w hb n h H k)
 have HW := Lib.hid (within_walk w hb n h wm H hok v hv (lowAt n k) back)
 have hc := clipP_in n k
 have hn := H.small
 have e : lowAt n k = (n : Int) - clipP n k := rfl
 rw [e] at HW ⊢
 clear H hok e
 generalize clipP n k = c at *
 go_enter Tryz.func42, Tryz.ntmps42
 go_wp2_with (first | (go_at_call 46; refine HN.out.mono ?_; rintro e w' ⟨rfl, rfl⟩) | (go_at_call 95; refine HK.out.mono ?_; rintro e w' ⟨rfl, rfl⟩) | (go_at_call 94; refine HW.out.mono ?_; rintro e w1 ⟨v1, v2, rfl, hR⟩; have HR := Lib.hid hR; clear hR))
 go_ret2
 exact ⟨v1, v2, rfl, HR.out⟩
theorem raw_walk (w : World) (hb n : Nat) (h : HierP) (wm : Int) (H : HierRep w hb n h) (hok : HOk n wm h) (v : Nat) (hv : v < n) (k : Int) (back : Bool) :
  Calls Tryz.prog 37 #[.pointer (some ⟨hb, 0, none⟩), .int .i64 v, .int .i64 k, .bool back] w fun r w' => ∃ v2, r = .returned v2 ∧ Kd.R k37 37 w' w.heap.size (fun _ => True) v2 (highP n h v (lowAt n k) back) ∧ Below w.heap.size w w' := by
 have HW := Lib.hid (awithin_walk w hb n h wm H hok v hv k back)
 clear H hok
 go_enter Tryz.func37, Tryz.ntmps37
 go_wp2_with (first | (go_at_call 42; refine HW.out.mono ?_; rintro e w1 ⟨v1, v2, rfl, hR⟩; have HR := Lib.hid hR; clear hR))
 go_ret
 exact ⟨v2, rfl, HR.out.2⟩
theorem at39 {w : World} {base : Nat} {ok : Nat → Prop} {A : Option Addr} {c m : Nat} {l : List S37} (h : Kd.R k37 37 w base ok (.slice A m c) l) (i : Nat) (hi : i < l.length) :
  ∃ ad, A = some ad ∧ w.cell? (ad.add (i * 2)) = some (.int .i64 (rd_T37 l i).f0) ∧ w.cell? ⟨(ad.add (i * 2)).block, (ad.add (i * 2)).off + 1, none⟩ = some (.int .i64 (rd_T37 l i).f1) := by
 have h1 := (Kd.R_reads' h).2.2
 exact at_T37 h1 (i : Int) (by omega) (by omega)
set_option maxRecDepth 100000 in
set_option maxHeartbeats 2000000 in
theorem sub_walk (w : World) (hb n : Nat) (h : HierP) (wm : Int) (H : HierRep w hb n h) (hok : HOk n wm h) (v : Nat) (hv : v < n) (k : Int) (back : Bool) :
  Calls Tryz.prog 18 #[.pointer (some ⟨hb, 0, none⟩), .int .i64 v, .int .i64 k, .bool back] w fun r w' => ∃ v2, r = .returned v2 ∧ Kd.R (Kd.int .i64) 3 w' w.heap.size (fun _ => True) v2 ((lowP n h v (lowAt n k) back).map (·.f0)) ∧ Below w.heap.size w w' := by
 have HW := Lib.hid (awithin_walk w hb n h wm H hok v hv k back)
 have hl : (lowP n h v (lowAt n k) back).length ≤ 900 := Nat.le_trans (rowsP_len _ _ _) H.small
 clear H hok
 generalize lowP n h v (lowAt n k) back = l at *
 go_enter Tryz.func18, Tryz.ntmps18
 go_wp2_with fail
 refine HW.out.mono ?_
 rintro e w1 ⟨v1, v2, rfl, hR1, _, hB1⟩
 obtain ⟨A, c, rfl, hlc, _⟩ := Kd.R_reads hR1
 obtain ⟨len, hlen⟩ : ∃ len, l.length = len := ⟨_, rfl⟩
 have HR1 := Lib.hid hR1
 have HB1 := Lib.hid hB1
 have HLEN := Lib.hid hlen
 rw [hlen] at hlc hl ⊢
 clear hR1 hB1 HW hlen
 go_wp2_with fail
 go_loopw [11, 24] (fun v11 v24 wr => ∃ i : Nat, v24 = .int .i64 i ∧ i ≤ len ∧ Hid (Kd.R (Kd.int .i64) 3 wr w1.heap.size (fun _ => True) v11 ((l.take i).map (·.f0))) ∧ Hid (Below w1.heap.size w1 wr)) (fun _ v24 _ => len - (intOf v24).toNat)
 case atStart => exact ⟨0, rfl, by omega, Lib.hid (Kd.R_nil _ _ _ _ _), Lib.hid (Below.refl _ _)⟩
 case round =>
  obtain ⟨i, rfl, hi, HR, HB⟩ := hrel
  by_cases hlt : i < len
  ·obtain ⟨ad, rfl, r0, r1⟩ := at39 (Kd.R_below HR1.out HB.out) i (by have := HLEN.out; omega)
   have HTK : Hid ((l.take (i + 1)).map (·.f0) = (l.take i).map (·.f0) ++ [(rd_T37 l (i : Int)).f0]) := Lib.hid (by
    have hi' : i < l.length := by have := HLEN.out; omega
    rw [List.take_succ_eq_append_getElem hi', List.map_append]
    have : rd_T37 l (i : Int) = l[i] := by simp [rd_T37, List.getD, hi']
    rw [this]; rfl)
   have hlen : ((l.take i).map (·.f0)).length ≤ i := by simp; omega
   have hs1 : w.heap.size ≤ w1.heap.size := HB1.out.size
   have hs2 : w1.heap.size ≤ wr.heap.size := HB.out.size
   generalize rd_T37 l (i : Int) = e at *
   obtain ⟨a, b⟩ := e
   simp only at r0 r1 HTK
   have hi0 : (0 : Int) ≤ (i : Int) := Int.natCast_nonneg _
   have hi1 : (i : Int) < (len : Int) := by omega
   go_wp2_with (first | (at_builtin; refine Kd.R_append (Kd.int .i64) (w0 := w1) (W := wr.alloc (.cells #[.int .i64 a, .int .i64 b] 37)) w1.heap.size rfl (.tmp 28) (.tmp 31) 28 3 (.int .i64 0) 8 rfl Tryz.underlying28 info3 rfl (by decide) (by omega) _ ((l.take i).map (·.f0)) a [.int .i64 a] (fun _ => True) (fun _ => False) rfl (by rw [World.size_alloc]; rfl) rfl (fun _ h => h.elim) (fun _ _ => trivial) (Kd.R_alloc HR.out _) (HB.out.alloc hs2 _) (by simp; omega) (by omega) ?_; intro v1 w2 hR2 hB2 hg2 _; have HR2 := Lib.hid hR2; have HB2 := Lib.hid hB2; clear hR2 hB2 hg2))
   go_roundw
   case measure => simp [intOf]; omega
   case rel => exact ⟨i + 1, by go_num, by omega, Lib.hid (by rw [HTK.out]; exact HR2.out), HB2⟩
  ·have HIL : Hid (l.take i = l) := Lib.hid (List.take_of_length_le (by have := HLEN.out; omega))
   have hil : len ≤ i := by omega
   go_wp2_with fail
   go_ret
   rw [HIL.out] at HR
   exact ⟨_, rfl, Kd.R_lower HR.out HB1.out.size, HB1.out.trans (HB.out.mono HB1.out.size)⟩
theorem climbGo_bound {n : Nat} {rank : List Int} {top wm : Int} {up : List (List S75)} (hup : ∀ v : Nat, v < n → EdgesOk n wm (edges up v)) (hw : 0 ≤ wm) :
  ∀ (f : Nat) (b : Int) (q : Q) (out : Int → Option Int), CInv n b q out → ∀ x y : Int, climbGo rank top up f q out x = some y → 0 ≤ x ∧ x < n ∧ 0 ≤ y ∧ y ≤ b + f * wm
 | 0, b, q, out, h, x, y, e => by
  have := h.outs x y e
  simp; omega
 | f + 1, b, q, out, h, x, y, e => by
  have e1 : b + ((f + 1 : Nat) : Int) * wm = (b + wm) + (f : Int) * wm := by rw [Int.natCast_add, Int.add_mul]; simp; omega
  rw [e1]
  unfold climbGo at e
  by_cases hq : q.l = []
  ·rw [if_pos hq] at e
   have := h.outs x y e
   have h2 : 0 ≤ (f : Int) * wm := Int.mul_nonneg (by omega) hw
   omega
  ·rw [if_neg hq] at e
   have hl : 0 < q.l.length := List.length_pos_iff.2 hq
   have h1 := h.first hl
   have h2 := h.pop hl
   by_cases ht : rd rank (nth q.l 0).id ≥ top
   ·rw [if_pos ht] at e
    exact climbGo_bound hup hw f (b + wm) _ _ (h2.mono (by omega)) x y e
   ·rw [if_neg ht] at e
    refine climbGo_bound hup hw f (b + wm) _ _ (CInv.relaxd h1.2.2.2.1 h1.2.2.2.2.1 _ _ (hup _ (by omega)) (h2.mono (by omega))) x y e
theorem climb_bound {n : Nat} {rank : List Int} {top wm : Int} {up : List (List S75)} (hup : ∀ v : Nat, v < n → EdgesOk n wm (edges up v)) (hw : 0 ≤ wm) (v : Nat) (hv : v < n) (x y : Int)
  (e : climbF n rank top up v x = some y) : 0 ≤ x ∧ x < n ∧ 0 ≤ y ∧ y ≤ (n + 1) * wm := by
 have := climbGo_bound hup hw (n + 1) 0 _ _ (CInv.start n v hv) x y e
 simpa using this
theorem rowsP_mem {n : Nat} {f : Int → Option Int} {P : Nat → Bool} {x : S37} (h : x ∈ rowsP n f P) : ∃ v : Nat, v < n ∧ x.f0 = v ∧ f (v : Int) = some x.f1 ∧ P v = true := by
 unfold rowsP at h
 obtain ⟨v, hv, e⟩ := List.mem_filterMap.1 h
 cases hf : f (v : Int) with
 | none => rw [hf] at e; cases e
 | some d =>
  rw [hf] at e
  by_cases hp : P v = true
  ·simp only [if_pos hp] at e
   obtain rfl := Option.some.inj e
   exact ⟨v, by simpa using hv, rfl, hf, hp⟩
  ·simp [if_neg hp] at e
theorem rowsP_none (n : Nat) (P : Nat → Bool) : rowsP n (fun _ => none) P = [] := by unfold rowsP; simp
def aboveP (n : Nat) (h : HierP) (v : Int) (back : Bool) : List S37 :=
 if 0 ≤ v ∧ v < n then rowsP n (climbF n h.rank n (h.side back) v.toNat) (fun _ => true) else []
theorem aboveP_len (n : Nat) (h : HierP) (v : Int) (back : Bool) : (aboveP n h v back).length ≤ n := by
 unfold aboveP
 split
 ·exact rowsP_len _ _ _
 ·simp
theorem HOk.sides {n : Nat} {wm : Int} {h : HierP} (hok : HOk n wm h) (back : Bool) : ∀ v : Nat, v < n → EdgesOk n wm (edges (h.side back) v) := by
 cases back
 ·exact hok.up
 ·exact hok.down
theorem aboveP_mem {n : Nat} {wm : Int} {h : HierP} (hok : HOk n wm h) (hn : n ≤ 900) {v : Int} {back : Bool} {x : S37} (hx : x ∈ aboveP n h v back) : 0 ≤ x.f0 ∧ x.f0 < n ∧ 0 ≤ x.f1 ∧ x.f1 ≤ 1152921504606846976 := by
 unfold aboveP at hx
 by_cases hv : 0 ≤ v ∧ v < n
 ·rw [if_pos hv] at hx
  obtain ⟨u, hu, e0, e1, _⟩ := rowsP_mem hx
  have := climb_bound (hok.sides back) hok.wm0 v.toNat (by omega) _ _ e1
  have h1 := hok.wm1
  have h2 : ((n : Int) + 1) * wm ≤ 901 * 1125899906842624 := Int.mul_le_mul (by omega) h1 hok.wm0 (by omega)
  omega
 ·rw [if_neg hv] at hx; simp at hx
set_option maxHeartbeats 1000000 in
theorem climb_no (w : World) (hb n : Nat) (h : HierP) (H : HierRep w hb n h) (v : Int) (hv : v < 0 ∨ n ≤ v) (top : Int) (f : Value) :
  Calls Tryz.prog 119 #[.pointer (some ⟨hb, 0, none⟩), .int .i64 v, .int .i64 top, f] w fun r w' => r = .returned (.map (some w.heap.size)) ∧ w.alloc (.map #[] 0) = w' := by
 have hb1 : Below w.heap.size w (w.alloc (.map #[] 0)) := (Below.refl _ _).alloc (Nat.le_refl _) _
 have HR := Lib.hid (rank_no _ hb n h (H.below hb1) v hv)
 clear H hv hb1
 have hmm := @run_makeMap Tryz.prog
 go_enter Tryz.func119, Tryz.ntmps119
 go_wp2_with (first | (go_at_call 138; refine HR.out.mono ?_; rintro e w' ⟨rfl, rfl⟩))
 go_step3
 go_wp2_with (first | (go_at_call 138; refine HR.out.mono ?_; rintro e w' ⟨rfl, rfl⟩))
 (try rw [Exit.noGoto_ret])
 go_ret
 exact ⟨rfl, rfl⟩
theorem forward_walk (w : World) (hb n : Nat) (h : HierP) (wm : Int) (H : HierRep w hb n h) (hok : HOk n wm h) (v : Int) :
  Calls Tryz.prog 89 #[.pointer (some ⟨hb, 0, none⟩), .int .i64 v] w fun r w' => ∃ vr, r = .returned vr ∧ Kd.R k37 37 w' w.heap.size (fun _ => True) vr (aboveP n h v false) ∧ Below w.heap.size w w' := by
 have HN := Lib.hid (n_walk w hb n h H)
 have HC : Hid (Calls Tryz.prog 119 #[.pointer (some ⟨hb, 0, none⟩), .int .i64 v, .int .i64 n, .func (.func 120) #[] #[]] w fun r w' => ∃ mb m f, r = .returned (.map (some mb)) ∧ MapI w' mb m f ∧ rowsP n f (fun _ => true) = aboveP n h v false ∧ Below w.heap.size w w') := Lib.hid (by
  by_cases hv : 0 ≤ v ∧ v < n
  ·obtain ⟨u, rfl⟩ : ∃ u : Nat, v = u := ⟨v.toNat, by omega⟩
   refine (climb_up w hb n h wm H hok u (by omega) n).mono ?_
   rintro e w' ⟨mb, m, rfl, hM, _, hB⟩
   exact ⟨mb, m, _, rfl, hM, by unfold aboveP; rw [if_pos hv]; rfl, hB⟩
  ·refine (climb_no w hb n h H v (by omega) n _).mono ?_
   rintro e w' ⟨rfl, rfl⟩
   exact ⟨_, 0, fun _ => none, rfl, MapI.made w, by unfold aboveP; rw [if_neg hv, rowsP_none], (Below.refl _ _).alloc (Nat.le_refl _) _⟩)
 have HH := Lib.hid H
 clear H hok
 go_enter Tryz.func89, Tryz.ntmps89
 go_wp2_with (first | (go_at_call 46; refine HN.out.mono ?_; rintro e w' ⟨rfl, rfl⟩))
 refine HC.out.mono ?_
 rintro e w1 ⟨mb, m, f, rfl, hM, hE, hB⟩
 have HR := Lib.hid (rows_all w1 hb n mb m h f (HH.out.below hB) hM)
 have HE := Lib.hid hE
 have HB := Lib.hid hB
 clear hM hE hB HC HN HH
 go_wp2_with fail
 refine HR.out.mono ?_
 rintro e w2 ⟨vr, rfl, hR, hB2⟩
 rw [HE.out] at hR
 have HR2 := Lib.hid (Kd.R_lower hR HB.out.size)
 have HB2 := Lib.hid (HB.out.trans (hB2.mono HB.out.size))
 clear hR hB2 HR
 go_wp2_with fail
 go_ret
 exact ⟨vr, rfl, HR2.out, HB2.out⟩
theorem back_walk (w : World) (hb n : Nat) (h : HierP) (wm : Int) (H : HierRep w hb n h) (hok : HOk n wm h) (v : Int) :
  Calls Tryz.prog 90 #[.pointer (some ⟨hb, 0, none⟩), .int .i64 v] w fun r w' => ∃ vr, r = .returned vr ∧ Kd.R k37 37 w' w.heap.size (fun _ => True) vr (aboveP n h v true) ∧ Below w.heap.size w w' := by
 have HN := Lib.hid (n_walk w hb n h H)
 have HC : Hid (Calls Tryz.prog 119 #[.pointer (some ⟨hb, 0, none⟩), .int .i64 v, .int .i64 n, .func (.func 122) #[] #[]] w fun r w' => ∃ mb m f, r = .returned (.map (some mb)) ∧ MapI w' mb m f ∧ rowsP n f (fun _ => true) = aboveP n h v true ∧ Below w.heap.size w w') := Lib.hid (by
  by_cases hv : 0 ≤ v ∧ v < n
  ·obtain ⟨u, rfl⟩ : ∃ u : Nat, v = u := ⟨v.toNat, by omega⟩
   refine (climb_down w hb n h wm H hok u (by omega) n).mono ?_
   rintro e w' ⟨mb, m, rfl, hM, _, hB⟩
   exact ⟨mb, m, _, rfl, hM, by unfold aboveP; rw [if_pos hv]; rfl, hB⟩
  ·refine (climb_no w hb n h H v (by omega) n _).mono ?_
   rintro e w' ⟨rfl, rfl⟩
   exact ⟨_, 0, fun _ => none, rfl, MapI.made w, by unfold aboveP; rw [if_neg hv, rowsP_none], (Below.refl _ _).alloc (Nat.le_refl _) _⟩)
 have HH := Lib.hid H
 clear H hok
 go_enter Tryz.func90, Tryz.ntmps90
 go_wp2_with (first | (go_at_call 46; refine HN.out.mono ?_; rintro e w' ⟨rfl, rfl⟩))
 refine HC.out.mono ?_
 rintro e w1 ⟨mb, m, f, rfl, hM, hE, hB⟩
 have HR := Lib.hid (rows_all w1 hb n mb m h f (HH.out.below hB) hM)
 have HE := Lib.hid hE
 have HB := Lib.hid hB
 clear hM hE hB HC HN HH
 go_wp2_with fail
 refine HR.out.mono ?_
 rintro e w2 ⟨vr, rfl, hR, hB2⟩
 rw [HE.out] at hR
 have HR2 := Lib.hid (Kd.R_lower hR HB.out.size)
 have HB2 := Lib.hid (HB.out.trans (hB2.mono HB.out.size))
 clear hR hB2 HR
 go_wp2_with fail
 go_ret
 exact ⟨vr, rfl, HR2.out, HB2.out⟩
end Go.Proofs.YtfkejflmhidnaaaGreat.PAll
