import Derived.Test.YtfkejflmhidnaaaGreatQNeP
set_option linter.all false
namespace Go.Proofs.YtfkejflmhidnaaaGreat.PAll
open RowKit YtfkejflmhidnaaaGreatW.PrintWords YtfkejflmhidnaaaGreatW.PrintLast YtfkejflmhidnaaaGreatW.PrintMore
open Hp hiding Good
theorem info66N : (Tryz.prog.info? 71).map (fun i => (i.zero, i.size, i.bytes)) = some (some (.agg #[(.int .i64 0), (.int .i64 0), (.int .i64 0), (.int .i64 0), (.int .i64 0)]), 5, 40) := by kernel_rfl
theorem cell_allocN {w : World} {p : Addr} {u : Value} {o : Obj} (h : w.cell? p = some u) : (w.alloc o).cell? p = some u := by
 have hb := World.block_lt_of_cell? w p h
 exact ((Below.refl w.heap.size w).alloc (Nat.le_refl _) o).cell hb ▸ h
def NeedPost (w : World) (n : Nat) (t : TP) (v : Int) (r : Ending) (w' : World) : Prop := ∃ (A : Option Addr) (c : Nat) (L : List S71), r = .returned (.slice A L.length c) ∧ L.length ≤ c ∧ Kd.R k71 71 w' w.heap.size (fun _ => True) (.slice A L.length c) L ∧ NeedOk n t v L ∧ Below w.heap.size w w'
set_option maxRecDepth 100000 in
set_option maxHeartbeats 4000000 in
theorem TV.needed {w : World} {t : TP} {S1 S2 S3 : Value} (h : TV w t S1 S2 S3) (n : Nat) (wm : Int) (ok : TOk n wm t) (hw0 : 0 ≤ wm) (hw1 : wm ≤ 1125899906842624) (v : Int) : Calls Tryz.prog 78 #[.agg #[.int .i64 t.n, S1, S2, S3], .int .i64 v] w fun r w' => NeedPost w n t v r w' := by
 have HIN : Hid (∀ W, Below w.heap.size w W → Calls Tryz.prog 82 #[.agg #[.int .i64 t.n, S1, S2, S3], .int .i64 v] W fun r w' => RowPost W (rowB t.n fun x => (wayP t.l x v).isSome) r w') := Lib.hid (fun W g => (h.below g).ins v)
 have HOU : Hid (∀ W, Below w.heap.size w W → Calls Tryz.prog 80 #[.agg #[.int .i64 t.n, S1, S2, S3], .int .i64 v] W fun r w' => RowPost W (rowB t.n fun x => (wayP t.l v x).isSome) r w') := Lib.hid (fun W g => (h.below g).outs v)
 have HWY : Hid (∀ W, Below w.heap.size w W → ∀ (x y : Int) (o : S69), wayP t.l x y = some o → Calls Tryz.prog 81 #[.agg #[.int .i64 t.n, S1, S2, S3], .int .i64 x, .int .i64 y] W fun r w' => r = .returned (.tuple #[.agg #[.int .i64 o.f0, .int .i64 o.f1, .int .i64 o.f2], .bool true]) ∧ Below W.heap.size W w') := Lib.hid (fun W g x y o ho => ((h.below g).way x y).mono (fun r w' hh => by
  obtain ⟨h1, h2⟩ := hh
  rw [ho] at h1
  exact ⟨h1, h2⟩))
 have HNE : Hid (∀ W, Below w.heap.size w W → ∀ (a b most : Int), Calls Tryz.prog 113 #[.agg #[.int .i64 t.n, S1, S2, S3], .int .i64 a, .int .i64 b, .int .i64 v, .int .i64 most] W fun r w' => NPost W (∃ d, Wk (ELw t.l v) a b d ∧ 0 ≤ d ∧ d ≤ most) r w') := Lib.hid (fun W g a b most => (h.below g).near wm hw0 hw1 ok.lok a b v most (fun z d => Wk (ELw t.l v) a z d) (Wk.nil _ _) (fun x hx h0 h1 d hd => hd.snoc ⟨x, hx, rfl, rfl, rfl, h0, h1⟩))
 have HMA : Hid (∀ i : Nat, i < (rowB t.n fun x => (wayP t.l x v).isSome).length → ∃ o, wayP t.l (rd (rowB t.n fun x => (wayP t.l x v).isSome) (i : Int)) v = some o ∧ 0 ≤ o.f0 ∧ o.f0 ≤ wm) := Lib.hid (fun i hi => by
  obtain ⟨_, _, h3⟩ := rowB_mem.1 (by rw [rd_get hi]; exact List.getElem_mem _ : rd (rowB t.n fun x => (wayP t.l x v).isSome) (i : Int) ∈ rowB t.n fun x => (wayP t.l x v).isSome)
  obtain ⟨o, ho⟩ := Option.isSome_iff_exists.1 h3
  obtain ⟨x, hx, _, _, e2⟩ := wayP_some ho
  have := ok.ends x hx
  exact ⟨o, ho, by rw [← e2]; exact this.2.2.2.1, by rw [← e2]; exact this.2.2.2.2⟩)
 have HMB : Hid (∀ i : Nat, i < (rowB t.n fun x => (wayP t.l v x).isSome).length → ∃ o, wayP t.l v (rd (rowB t.n fun x => (wayP t.l v x).isSome) (i : Int)) = some o ∧ 0 ≤ o.f0 ∧ o.f0 ≤ wm) := Lib.hid (fun i hi => by
  obtain ⟨_, _, h3⟩ := rowB_mem.1 (by rw [rd_get hi]; exact List.getElem_mem _ : rd (rowB t.n fun x => (wayP t.l v x).isSome) (i : Int) ∈ rowB t.n fun x => (wayP t.l v x).isSome)
  obtain ⟨o, ho⟩ := Option.isSome_iff_exists.1 h3
  obtain ⟨x, hx, _, _, e2⟩ := wayP_some ho
  have := ok.ends x hx
  exact ⟨o, ho, by rw [← e2]; exact this.2.2.2.1, by rw [← e2]; exact this.2.2.2.2⟩)
 have HEND : Hid (∀ xs, DN t v (rowB t.n fun x => (wayP t.l x v).isSome) (rowB t.n fun x => (wayP t.l v x).isSome) xs (rowB t.n fun x => (wayP t.l x v).isSome).length 0 → NeedOk n t v xs) := Lib.hid (fun xs hx => DN.done ok hx)
 have hla := rowB_len t.n (fun x => (wayP t.l x v).isSome)
 have hlb := rowB_len t.n (fun x => (wayP t.l v x).isSome)
 have hn1000 := h.small
 generalize (rowB t.n fun x => (wayP t.l x v).isSome) = la at *
 generalize (rowB t.n fun x => (wayP t.l v x).isSome) = lb at *
 obtain ⟨m, hm⟩ : ∃ m, t.n = m := ⟨_, rfl⟩
 rw [hm] at HIN HOU HWY HNE hla hlb hn1000 ⊢
 clear h ok hm
 have HB := Lib.hid (TB.new w m S1 S2 S3)
 have HR0 : Hid (Below w.heap.size w (w.alloc (.cells #[.int .i64 m, S1, S2, S3] 121))) := Lib.hid ((Below.refl _ _).alloc (Nat.le_refl _) _)
 obtain ⟨c0, c1, c2, c3, l0⟩ := HB.out.cells
 go_enter Tryz.func78, Tryz.ntmps78
 go_wp2_with fail
 generalize w.alloc (.cells #[.int .i64 m, S1, S2, S3] 121) = W1 at *
 refine (HIN.out W1 HR0.out).mono ?_
 rintro e W3 ⟨Aa, ca, rfl, hca, hCa, g⟩
 have HG3 := Lib.hid (HR0.out.trans (g.mono HR0.out.size))
 have HB3 := Lib.hid (HB.out.below g)
 have HCa := Lib.hid hCa
 clear c0 c1 c2 c3 l0 g hCa
 obtain ⟨c0, c1, c2, c3, l0⟩ := HB3.out.cells
 go_wp2_with fail
 refine (HOU.out W3 HG3.out).mono ?_
 rintro e W4 ⟨Ab, cb, rfl, hcb, hCb, g⟩
 have HG4 := Lib.hid (HG3.out.trans (g.mono HG3.out.size))
 have HB4 := Lib.hid (HB3.out.below g)
 have HCa4 := Lib.hid (Kd.C_below HCa.out g)
 have HCb := Lib.hid hCb
 clear c0 c1 c2 c3 l0 g hCb HCa HB3 HG3 HB HR0
 have HLA : Hid (∃ na, la.length = na) := Lib.hid ⟨_, rfl⟩
 obtain ⟨na, hna⟩ := HLA.out
 have HLB : Hid (∃ nb, lb.length = nb) := Lib.hid ⟨_, rfl⟩
 obtain ⟨nb, hnb⟩ := HLB.out
 have HNB := Lib.hid hnb
 rw [hna] at HCa4 hla hca HMA HEND
 rw [hnb] at HCb hlb hcb HMB
 rw [hna, hnb]
 clear HLA HLB hna hnb
 have HD0 : Hid (DN t v la lb [] 0 0) := Lib.hid (DN.start t v la lb)
 go_wp2_with fail
 go_loopw [7, 8] (fun v7 v8 wr => ∃ (xs : List S71) (i : Nat), v8 = .int .i64 i ∧ i ≤ na ∧ Hid (Kd.R k71 71 wr W4.heap.size (fun _ => True) v7 xs) ∧ Hid (Below W4.heap.size W4 wr) ∧ Hid (DN t v la lb xs i 0)) (fun _ v8 _ => na - (intOf v8).toNat)
 case atStart => exact ⟨[], 0, rfl, by omega, Lib.hid (Kd.R_nil _ _ _ _ _), Lib.hid (Below.refl _ _), HD0⟩
 case round =>
  obtain ⟨xs, i, rfl, hi, HX, HG, HD⟩ := hrel
  by_cases hlt : i < na
  ·have hi0 : (0 : Int) ≤ (i : Int) := Int.natCast_nonneg _
   have hi1 : (i : Int) < (na : Int) := by omega
   obtain ⟨x, hx, hx0, hx1⟩ := HMA.out i hlt
   have HWX := Lib.hid hx
   have HB5 := Lib.hid (HB4.out.below HG.out)
   obtain ⟨c0, c1, c2, c3, l0⟩ := HB5.out.cells
   obtain ⟨aa, hAa, ha⟩ := Kd.at_int (Kd.C_below HCa4.out HG.out) (i : Int) (by omega) (by omega)
   subst hAa
   have ha' : wr.cell? (aa.add i) = some (.int .i64 (rd la i)) := ha
   obtain ⟨x0, x1, x2⟩ := x
   simp only at hx0 hx1
   obtain ⟨qa, hqa⟩ : ∃ qa, rd la (i : Int) = qa := ⟨_, rfl⟩
   have HQA := Lib.hid hqa
   rw [hqa] at ha' HWX
   clear ha hqa hx HD0
   have hsz : W4.heap.size ≤ wr.heap.size := HG.out.size
   have hw4 : w.heap.size ≤ W4.heap.size := HG4.out.size
   go_upto_region 7 with fail
   refine start_ (n := 13) (S := fun w' => w'.cell? ⟨w.heap.size, 0, none⟩ = some (.int .i64 m) ∧ w'.cell? ⟨w.heap.size, 1, none⟩ = some S1 ∧ w'.cell? ⟨w.heap.size, 2, none⟩ = some S2 ∧ w'.cell? ⟨w.heap.size, 3, none⟩ = some S3 ∧ w'.cell? (aa.add i) = some (.int .i64 qa)) (ds := [11]) (bA_ 13 0) (by kernel_rfl) rfl rfl ⟨c0, c1, c2, c3, ha'⟩ (fun hHeld => ?_)
   refine p2_ 1 28 (bA_ 13 2) ?_
   refine p2_ 2 29 (bA_ 13 6) ?_
   refine p2_ 3 30 (bA_ 13 14) ?_
   refine p2_ 5 32 (bA_ 13 46) ?_
   refine t2_ 0 27 (bA_ 13 47) hHeld ?_ (hy := by rintro w' ⟨s0, s1, s2, s3, s4⟩; go_simp; with_reducible rfl)
   refine t2_ 4 31 (bA_ 13 63) hHeld ?_ (hy := by rintro w' ⟨s0, s1, s2, s3, s4⟩; go_simp; with_reducible rfl)
   refine join_ (σ := Nat) 2 (bA_ 13 2047) (fun s => [(33, .tuple #[.agg #[.int .i64 x0, .int .i64 x1, .int .i64 x2], .bool true]), (26, .tuple #[.agg #[.int .i64 x0, .int .i64 x1, .int .i64 x2], .bool true]), (34, .agg #[.int .i64 x0, .int .i64 x1, .int .i64 x2]), (35, .bool true), (9, .pointer (some ⟨s, 0, none⟩))]) (fun s w' => w'.heap[s]? = some (.cells #[.int .i64 0, .int .i64 0, .int .i64 0] 69 (0, 0)) ∧ Below wr.heap.size wr w' ∧ wr.heap.size ≤ s) ?_ ?_
   rotate_left
   ·intro hCont
    refine two_ (i := 6) (j := 10) (Ni := some 33) (Nj := some 9) (bA_ 13 127) (bA_ 13 1087) rfl rfl rfl rfl (by kernel_rfl) (by decide) (by decide) (fun K hK => ?_) (fun K hK => ?_)
    ·skip
     refine g2_ Tryz.func81 #[.agg #[.int .i64 m, S1, S2, S3], .int .i64 qa, .int .i64 v] ?_
     with_reducible refine (HWY.out _ (HG4.out.trans (HG.out.drew.mono hw4)) qa v ⟨x0, x1, x2⟩ HWX.out).mono ?_
     rintro e w3 ⟨rfl, g3⟩
     refine ⟨_, rfl, ?_⟩
     refine hK.out _ _ ⟨(g3.cell (World.block_lt_of_cell? _ _ hHeld.1) ▸ hHeld.1), (g3.cell (World.block_lt_of_cell? _ _ hHeld.2.1) ▸ hHeld.2.1), (g3.cell (World.block_lt_of_cell? _ _ hHeld.2.2.1) ▸ hHeld.2.2.1), (g3.cell (World.block_lt_of_cell? _ _ hHeld.2.2.2.1) ▸ hHeld.2.2.2.1), (g3.cell (World.block_lt_of_cell? _ _ hHeld.2.2.2.2) ▸ hHeld.2.2.2.2)⟩ (fun hHeld => ?_)
     clear hK K
     refine n2_ 33 ?_
     refine p2_ 7 26 (bA_ 13 255) ?_
     refine p2_ 8 34 (bA_ 13 511) ?_
     refine p2_ 9 35 (bA_ 13 1023) ?_
     refine o2_ 10 9 (bA_ 13 2047) (fun K hK => ?_)
     refine value_ (w1 := ?_) (v := ?_) (by rfl) rfl ?_ ?_
     rotate_left 2
     ·go_simp
      constructor
      ·rfl
      ·rfl
     refine hK.out _ _ ⟨(cell_allocN hHeld.1), (cell_allocN hHeld.2.1), (cell_allocN hHeld.2.2.1), (cell_allocN hHeld.2.2.2.1), (cell_allocN hHeld.2.2.2.2)⟩ (fun hHeld => ?_)
     clear hK K
     refine n2_ 9 ?_
     exact norm_ (by simp only [putAll, Act.put, List.setIfInBounds_toArray, List.set_cons_zero, List.set_cons_succ]) (hCont w3.heap.size _ ⟨blk_new w3 _, ((Below.refl _ _).drew.trans g3).alloc g3.size _, g3.size⟩)
    ·skip
     refine value_ (w1 := ?_) (v := ?_) (by rfl) rfl ?_ ?_
     rotate_left 2
     ·go_simp
      constructor
      ·rfl
      ·rfl
     refine hK.out _ _ ⟨(cell_allocN hHeld.1), (cell_allocN hHeld.2.1), (cell_allocN hHeld.2.2.1), (cell_allocN hHeld.2.2.2.1), (cell_allocN hHeld.2.2.2.2)⟩ (fun hHeld => ?_)
     clear hK K
     refine n2_ 9 ?_
     refine o2_ 6 33 (bA_ 13 1151) (fun K hK => ?_)
     refine g2_ Tryz.func81 #[.agg #[.int .i64 m, S1, S2, S3], .int .i64 qa, .int .i64 v] ?_
     with_reducible refine (HWY.out _ (HG4.out.trans (((HG.out.alloc HG.out.size _).drew).mono hw4)) qa v ⟨x0, x1, x2⟩ HWX.out).mono ?_
     rintro e w3 ⟨rfl, g3⟩
     refine ⟨_, rfl, ?_⟩
     refine hK.out _ _ ⟨(g3.cell (World.block_lt_of_cell? _ _ hHeld.1) ▸ hHeld.1), (g3.cell (World.block_lt_of_cell? _ _ hHeld.2.1) ▸ hHeld.2.1), (g3.cell (World.block_lt_of_cell? _ _ hHeld.2.2.1) ▸ hHeld.2.2.1), (g3.cell (World.block_lt_of_cell? _ _ hHeld.2.2.2.1) ▸ hHeld.2.2.2.1), (g3.cell (World.block_lt_of_cell? _ _ hHeld.2.2.2.2) ▸ hHeld.2.2.2.2)⟩ (fun hHeld => ?_)
     clear hK K
     refine n2_ 33 ?_
     refine p2_ 7 26 (bA_ 13 1279) ?_
     refine p2_ 8 34 (bA_ 13 1535) ?_
     refine p2_ 9 35 (bA_ 13 2047) ?_
     exact norm_ (by simp only [putAll, Act.put, List.setIfInBounds_toArray, List.set_cons_zero, List.set_cons_succ]) (hCont wr.heap.size _ ⟨(g3.block wr.heap.size (by simp)).trans (blk_new _ _), (((Below.refl _ _).alloc (Nat.le_refl _) _).drew).trans (g3.mono (by simp)), Nat.le_refl _⟩)
   rintro go w6 ⟨hb6, g6, hgo⟩
   have s1 : w6.cell? ⟨w.heap.size, 0, none⟩ = some (.int .i64 m) ∧ w6.cell? ⟨w.heap.size, 1, none⟩ = some S1 ∧ w6.cell? ⟨w.heap.size, 2, none⟩ = some S2 ∧ w6.cell? ⟨w.heap.size, 3, none⟩ = some S3 ∧ w6.cell? (aa.add i) = some (.int .i64 qa) := ⟨g6.cell (World.block_lt_of_cell? _ _ c0) ▸ c0, g6.cell (World.block_lt_of_cell? _ _ c1) ▸ c1, g6.cell (World.block_lt_of_cell? _ _ c2) ▸ c2, g6.cell (World.block_lt_of_cell? _ _ c3) ▸ c3, g6.cell (World.block_lt_of_cell? _ _ ha') ▸ ha'⟩
   have hHeld := s1
   have k0 := (blk_cell hb6 0).trans rfl
   have k1 := (blk_cell hb6 1).trans rfl
   have k2 := (blk_cell hb6 2).trans rfl
   have kf : ∀ j, w6.frozen? ⟨go, j, none⟩ = false := fun j => blk_frozen hb6 j
   have kl := blk_lt hb6
   refine norm_ (a' := ?_) ?_ ?_
   rotate_left
   ·simp only [putAll, Act.put, List.setIfInBounds_toArray, List.set_cons_zero, List.set_cons_succ]
    rfl
   refine last_ (i := 11) (N := none) (bA_ 13 4095) rfl rfl (by kernel_rfl) (by decide) (fun K hK => ?_)
   refine skip_ (w1 := ?_) (by rfl) rfl ?_ ?_
   rotate_left
   ·go_simp
    rfl
   refine hK.out _ _ ?_
   clear hK K
   refine p2_ 12 10 (bA_ 13 8191) ?_
   refine done_ (by kernel_rfl) ?_
   have HBX := Lib.hid (blk_put (blk_put (blk_put hb6 0 (.int .i64 x0) rfl) 1 (.int .i64 x1) rfl) 2 (.int .i64 x2) rfl)
   have HW6 : Hid (Below wr.heap.size wr (((w6.setCell ⟨go, 0, none⟩ (.int .i64 x0)).setCell ⟨go, 1, none⟩ (.int .i64 x1)).setCell ⟨go, 2, none⟩ (.int .i64 x2))) := Lib.hid (((g6.setCell (p := ⟨go, 0, none⟩) hgo _).setCell (p := ⟨go, 1, none⟩) hgo _).setCell (p := ⟨go, 2, none⟩) hgo _)
   have HX2 := Lib.hid (Kd.R_below HX.out HW6.out)
   have HG6 := Lib.hid (HG.out.trans (HW6.out.mono hsz))
   clear g6 hb6 s1 k0 k1 k2 kf kl c0 c1 c2 c3 l0 ha' HW6 hgo
   generalize ((w6.setCell ⟨go, 0, none⟩ (.int .i64 x0)).setCell ⟨go, 1, none⟩ (.int .i64 x1)).setCell ⟨go, 2, none⟩ (.int .i64 x2) = w7 at *
   go_wp2_with fail
   go_loopw [7, 11] (fun v7 v11 wr => ∃ (xs : List S71) (j : Nat), v11 = .int .i64 j ∧ j ≤ nb ∧ Hid (Kd.R k71 71 wr W4.heap.size (fun _ => True) v7 xs) ∧ Hid (Below W4.heap.size W4 wr) ∧ Hid (DN t v la lb xs i j) ∧ Hid (wr.heap[go]? = some (.cells #[.int .i64 x0, .int .i64 x1, .int .i64 x2] 69 (0, 0)))) (fun _ v11 _ => nb - (intOf v11).toNat)
   case atStart => exact ⟨xs, 0, rfl, by omega, HX2, HG6, HD, HBX⟩
   case round =>
    obtain ⟨xs, j, rfl, hj, HXj, HGj, HDj, HOj⟩ := hrel
    clear HX2 HG6 HBX HX HG
    by_cases hjt : j < nb
    ·have hj0 : (0 : Int) ≤ (j : Int) := Int.natCast_nonneg _
     have hj1 : (j : Int) < (nb : Int) := by omega
     obtain ⟨y, hy, hy0, hy1⟩ := HMB.out j hjt
     have HWQ := Lib.hid hy
     have HB7 := Lib.hid (HB4.out.below HGj.out)
     obtain ⟨c0, c1, c2, c3, l0⟩ := HB7.out.cells
     obtain ⟨ab, hAb, hb⟩ := Kd.at_int (Kd.C_below HCb.out HGj.out) (j : Int) (by omega) (by omega)
     subst hAb
     have hb' : wr.cell? (ab.add j) = some (.int .i64 (rd lb j)) := hb
     obtain ⟨y0, y1, y2⟩ := y
     simp only at hy0 hy1
     obtain ⟨qb, hqb⟩ : ∃ qb, rd lb (j : Int) = qb := ⟨_, rfl⟩
     have HQB := Lib.hid hqb
     rw [hqb] at hb' HWQ
     have HCC : Hid (∀ W, Below W4.heap.size W4 W → W.cell? (aa.add i) = some (.int .i64 qa) ∧ W.cell? (ab.add j) = some (.int .i64 qb) ∧ TB W w.heap.size m S1 S2 S3) := Lib.hid (fun W g => by
      obtain ⟨ad1, hA1, hc1⟩ := Kd.at_int (Kd.C_below HCa4.out g) (i : Int) (by omega) (by omega)
      obtain ⟨ad2, hA2, hc2⟩ := Kd.at_int (Kd.C_below HCb.out g) (j : Int) (by omega) (by omega)
      cases hA1
      cases hA2
      rw [HQA.out] at hc1
      rw [HQB.out] at hc2
      exact ⟨hc1, hc2, HB4.out.below g⟩)
     clear hb hqb hy
     have hsj : W4.heap.size ≤ wr.heap.size := HGj.out.size
     go_upto_region 11 with fail
     refine start_ (n := 13) (S := fun w' => w'.cell? ⟨w.heap.size, 0, none⟩ = some (.int .i64 m) ∧ w'.cell? ⟨w.heap.size, 1, none⟩ = some S1 ∧ w'.cell? ⟨w.heap.size, 2, none⟩ = some S2 ∧ w'.cell? ⟨w.heap.size, 3, none⟩ = some S3 ∧ w'.cell? (ab.add j) = some (.int .i64 qb)) (ds := [11]) (bA_ 13 0) (by kernel_rfl) rfl rfl ⟨c0, c1, c2, c3, hb'⟩ (fun hHeld => ?_)
     refine p2_ 1 44 (bA_ 13 2) ?_
     refine p2_ 2 45 (bA_ 13 6) ?_
     refine p2_ 3 46 (bA_ 13 14) ?_
     refine p2_ 4 47 (bA_ 13 30) ?_
     refine t2_ 0 43 (bA_ 13 31) hHeld ?_ (hy := by rintro w' ⟨s0, s1, s2, s3, s4⟩; go_simp; with_reducible rfl)
     refine t2_ 5 48 (bA_ 13 63) hHeld ?_ (hy := by rintro w' ⟨s0, s1, s2, s3, s4⟩; go_simp; with_reducible rfl)
     refine join_ (σ := Nat) 2 (bA_ 13 2047) (fun s => [(49, .tuple #[.agg #[.int .i64 y0, .int .i64 y1, .int .i64 y2], .bool true]), (42, .tuple #[.agg #[.int .i64 y0, .int .i64 y1, .int .i64 y2], .bool true]), (50, .agg #[.int .i64 y0, .int .i64 y1, .int .i64 y2]), (51, .bool true), (12, .pointer (some ⟨s, 0, none⟩))]) (fun s w' => w'.heap[s]? = some (.cells #[.int .i64 0, .int .i64 0, .int .i64 0] 69 (0, 0)) ∧ Below wr.heap.size wr w' ∧ wr.heap.size ≤ s) ?_ ?_
     rotate_left
     ·intro hCont
      refine two_ (i := 6) (j := 10) (Ni := some 49) (Nj := some 12) (bA_ 13 127) (bA_ 13 1087) rfl rfl rfl rfl (by kernel_rfl) (by decide) (by decide) (fun K hK => ?_) (fun K hK => ?_)
      ·skip
       refine g2_ Tryz.func81 #[.agg #[.int .i64 m, S1, S2, S3], .int .i64 v, .int .i64 qb] ?_
       with_reducible refine (HWY.out _ (HG4.out.trans (HGj.out.drew.mono hw4)) v qb ⟨y0, y1, y2⟩ HWQ.out).mono ?_
       rintro e w3 ⟨rfl, g3⟩
       refine ⟨_, rfl, ?_⟩
       refine hK.out _ _ ⟨(g3.cell (World.block_lt_of_cell? _ _ hHeld.1) ▸ hHeld.1), (g3.cell (World.block_lt_of_cell? _ _ hHeld.2.1) ▸ hHeld.2.1), (g3.cell (World.block_lt_of_cell? _ _ hHeld.2.2.1) ▸ hHeld.2.2.1), (g3.cell (World.block_lt_of_cell? _ _ hHeld.2.2.2.1) ▸ hHeld.2.2.2.1), (g3.cell (World.block_lt_of_cell? _ _ hHeld.2.2.2.2) ▸ hHeld.2.2.2.2)⟩ (fun hHeld => ?_)
       clear hK K
       refine n2_ 49 ?_
       refine p2_ 7 42 (bA_ 13 255) ?_
       refine p2_ 8 50 (bA_ 13 511) ?_
       refine p2_ 9 51 (bA_ 13 1023) ?_
       refine o2_ 10 12 (bA_ 13 2047) (fun K hK => ?_)
       refine value_ (w1 := ?_) (v := ?_) (by rfl) rfl ?_ ?_
       rotate_left 2
       ·go_simp
        constructor
        ·rfl
        ·rfl
       refine hK.out _ _ ⟨(cell_allocN hHeld.1), (cell_allocN hHeld.2.1), (cell_allocN hHeld.2.2.1), (cell_allocN hHeld.2.2.2.1), (cell_allocN hHeld.2.2.2.2)⟩ (fun hHeld => ?_)
       clear hK K
       refine n2_ 12 ?_
       exact norm_ (by simp only [putAll, Act.put, List.setIfInBounds_toArray, List.set_cons_zero, List.set_cons_succ]) (hCont w3.heap.size _ ⟨blk_new w3 _, ((Below.refl _ _).drew.trans g3).alloc g3.size _, g3.size⟩)
      ·skip
       refine value_ (w1 := ?_) (v := ?_) (by rfl) rfl ?_ ?_
       rotate_left 2
       ·go_simp
        constructor
        ·rfl
        ·rfl
       refine hK.out _ _ ⟨(cell_allocN hHeld.1), (cell_allocN hHeld.2.1), (cell_allocN hHeld.2.2.1), (cell_allocN hHeld.2.2.2.1), (cell_allocN hHeld.2.2.2.2)⟩ (fun hHeld => ?_)
       clear hK K
       refine n2_ 12 ?_
       refine o2_ 6 49 (bA_ 13 1151) (fun K hK => ?_)
       refine g2_ Tryz.func81 #[.agg #[.int .i64 m, S1, S2, S3], .int .i64 v, .int .i64 qb] ?_
       with_reducible refine (HWY.out _ (HG4.out.trans (((HGj.out.alloc HGj.out.size _).drew).mono hw4)) v qb ⟨y0, y1, y2⟩ HWQ.out).mono ?_
       rintro e w3 ⟨rfl, g3⟩
       refine ⟨_, rfl, ?_⟩
       refine hK.out _ _ ⟨(g3.cell (World.block_lt_of_cell? _ _ hHeld.1) ▸ hHeld.1), (g3.cell (World.block_lt_of_cell? _ _ hHeld.2.1) ▸ hHeld.2.1), (g3.cell (World.block_lt_of_cell? _ _ hHeld.2.2.1) ▸ hHeld.2.2.1), (g3.cell (World.block_lt_of_cell? _ _ hHeld.2.2.2.1) ▸ hHeld.2.2.2.1), (g3.cell (World.block_lt_of_cell? _ _ hHeld.2.2.2.2) ▸ hHeld.2.2.2.2)⟩ (fun hHeld => ?_)
       clear hK K
       refine n2_ 49 ?_
       refine p2_ 7 42 (bA_ 13 1279) ?_
       refine p2_ 8 50 (bA_ 13 1535) ?_
       refine p2_ 9 51 (bA_ 13 2047) ?_
       exact norm_ (by simp only [putAll, Act.put, List.setIfInBounds_toArray, List.set_cons_zero, List.set_cons_succ]) (hCont wr.heap.size _ ⟨(g3.block wr.heap.size (by simp)).trans (blk_new _ _), (((Below.refl _ _).alloc (Nat.le_refl _) _).drew).trans (g3.mono (by simp)), Nat.le_refl _⟩)
     rintro gp w6 ⟨hb6, g6, hgo⟩
     have s1 : w6.cell? ⟨w.heap.size, 0, none⟩ = some (.int .i64 m) ∧ w6.cell? ⟨w.heap.size, 1, none⟩ = some S1 ∧ w6.cell? ⟨w.heap.size, 2, none⟩ = some S2 ∧ w6.cell? ⟨w.heap.size, 3, none⟩ = some S3 ∧ w6.cell? (ab.add j) = some (.int .i64 qb) := ⟨g6.cell (World.block_lt_of_cell? _ _ c0) ▸ c0, g6.cell (World.block_lt_of_cell? _ _ c1) ▸ c1, g6.cell (World.block_lt_of_cell? _ _ c2) ▸ c2, g6.cell (World.block_lt_of_cell? _ _ c3) ▸ c3, g6.cell (World.block_lt_of_cell? _ _ hb') ▸ hb'⟩
     have hHeld := s1
     have k0 := (blk_cell hb6 0).trans rfl
     have k1 := (blk_cell hb6 1).trans rfl
     have k2 := (blk_cell hb6 2).trans rfl
     have kf : ∀ j, w6.frozen? ⟨gp, j, none⟩ = false := fun j => blk_frozen hb6 j
     have kl := blk_lt hb6
     refine norm_ (a' := ?_) ?_ ?_
     rotate_left
     ·simp only [putAll, Act.put, List.setIfInBounds_toArray, List.set_cons_zero, List.set_cons_succ]
      rfl
     refine last_ (i := 11) (N := none) (bA_ 13 4095) rfl rfl (by kernel_rfl) (by decide) (fun K hK => ?_)
     refine skip_ (w1 := ?_) (by rfl) rfl ?_ ?_
     rotate_left
     ·go_simp
      rfl
     refine hK.out _ _ ?_
     clear hK K
     refine p2_ 12 13 (bA_ 13 8191) ?_
     refine done_ (by kernel_rfl) ?_
     have HY8 := Lib.hid (blk_put (blk_put (blk_put hb6 0 (.int .i64 y0) rfl) 1 (.int .i64 y1) rfl) 2 (.int .i64 y2) rfl)
     have HW8 : Hid (Below wr.heap.size wr (((w6.setCell ⟨gp, 0, none⟩ (.int .i64 y0)).setCell ⟨gp, 1, none⟩ (.int .i64 y1)).setCell ⟨gp, 2, none⟩ (.int .i64 y2))) := Lib.hid (((g6.setCell (p := ⟨gp, 0, none⟩) hgo _).setCell (p := ⟨gp, 1, none⟩) hgo _).setCell (p := ⟨gp, 2, none⟩) hgo _)
     have HX8 := Lib.hid (Kd.R_below HXj.out HW8.out)
     have HG8 := Lib.hid (HGj.out.trans (HW8.out.mono hsj))
     have HO8 := Lib.hid ((HW8.out.block _ (blk_lt HOj.out)).trans HOj.out)
     clear g6 hb6 s1 k0 k1 k2 kf kl c0 c1 c2 c3 l0 hb' HW8 hgo HB7 HXj HGj HOj hsj
     generalize ((w6.setCell ⟨gp, 0, none⟩ (.int .i64 y0)).setCell ⟨gp, 1, none⟩ (.int .i64 y1)).setCell ⟨gp, 2, none⟩ (.int .i64 y2) = w8 at *
     obtain ⟨ha', hb', htb⟩ := HCC.out w8 HG8.out
     obtain ⟨c0, c1, c2, c3, l0⟩ := htb.cells
     have kx := (blk_cell HO8.out 0).trans rfl
     have ky := (blk_cell HY8.out 0).trans rfl
     clear htb
     by_cases hab : qa = qb
     ·have e1 : (qa != qb) = false := by simp [hab]
      have e2 : (qa == qb) = true := by simp [hab]
      have HD2 := Lib.hid (DN.same HDj.out (by rw [HQA.out, HQB.out, hab]))
      clear hab HDj
      go_upto_region 12 with fail
      refine start_ (n := 28) (S := fun w' => w'.cell? (aa.add i) = some (.int .i64 qa) ∧ w'.cell? (ab.add j) = some (.int .i64 qb)) (ds := []) (bA_ 28 0) (by kernel_rfl) rfl rfl ⟨ha', hb'⟩ (fun hHeld => ?_)
      refine p2_ 0 52 (bA_ 28 1) ?_
      refine p2_ 1 53 (bA_ 28 3) ?_
      refine p2_ 2 54 (bA_ 28 7) ?_
      refine p2_ 4 56 (bA_ 28 23) ?_
      refine p2_ 5 57 (bA_ 28 55) ?_
      refine p2_ 6 58 (bA_ 28 119) ?_
      refine t2_ 3 55 (bA_ 28 127) hHeld ?_ (hy := by rintro w' ⟨s0, s1⟩; go_simp; with_reducible rfl)
      refine t2_ 7 59 (bA_ 28 255) hHeld ?_ (hy := by rintro w' ⟨s0, s1⟩; go_simp; with_reducible rfl)
      refine p2_ 8 60 (bA_ 28 511) ?_
      refine p2_ 9 61 (bA_ 28 1023) ?_
      refine pu2_ 10 62 (bA_ 28 2047) ?_
      refine pu2_ 11 63 (bA_ 28 4095) ?_
      refine pu2_ 12 64 (bA_ 28 8191) ?_
      refine pu2_ 13 65 (bA_ 28 16383) ?_
      refine pu2_ 14 66 (bA_ 28 32767) ?_
      refine pu2_ 15 67 (bA_ 28 65535) ?_
      refine pu2_ 16 68 (bA_ 28 131071) ?_
      refine pu2_ 17 69 (bA_ 28 262143) ?_
      refine pu2_ 18 70 (bA_ 28 524287) ?_
      refine pu2_ 19 71 (bA_ 28 1048575) ?_
      refine pu2_ 20 72 (bA_ 28 2097151) ?_
      refine pu2_ 21 73 (bA_ 28 4194303) ?_
      refine pu2_ 22 74 (bA_ 28 8388607) ?_
      refine pu2_ 23 75 (bA_ 28 16777215) ?_
      refine pu2_ 24 76 (bA_ 28 33554431) ?_
      refine pu2_ 25 77 (bA_ 28 67108863) ?_
      refine pu2_ 26 78 (bA_ 28 134217727) ?_
      refine p2_ 27 79 (bA_ 28 268435455) ?_
      refine done_ (by kernel_rfl) ?_
      go_wp2_with fail
      go_roundw
      case measure => simp [intOf]; omega
      case rel => exact ⟨xs, j + 1, by go_num, by omega, Lib.hid (Kd.R_drew HX8.out), Lib.hid HG8.out.drew, HD2, Lib.hid HO8.out⟩
     ·have e1 : (qa != qb) = true := by simp [hab]
      have e2 : (qa == qb) = false := by simp [hab]
      have hwr : IntKind.i64.wrap (x0 + y0) = x0 + y0 := i64w rfl (by omega) (by omega)
      have HDN : Hid ((∃ d, Wk (ELw t.l v) qa qb d ∧ 0 ≤ d ∧ d ≤ x0 + y0) → DN t v la lb xs i (j + 1)) := Lib.hid (fun hq => DN.near HDj.out (by rw [HQA.out]; exact HWX.out) (by rw [HQB.out]; exact HWQ.out) (by rw [HQA.out, HQB.out]; exact hq))
      have HDA : Hid (DN t v la lb (xs ++ [⟨qa, qb, ⟨x0 + y0, v, -1⟩⟩]) i (j + 1)) := Lib.hid (by
       have := DN.add HDj.out (x := ⟨x0, x1, x2⟩) (y := ⟨y0, y1, y2⟩) (by rw [HQA.out]; exact HWX.out) (by rw [HQB.out]; exact HWQ.out) (by rw [HQA.out, HQB.out]; exact hab)
       rw [HQA.out, HQB.out] at this
       exact this)
      have hmax : (xs.length + 1) * 40 ≤ 140737488355328 := by
       have h1 := HDj.out.len
       have h2 : i * lb.length ≤ 1000 * 1000 := Nat.mul_le_mul (by omega) (by rw [HNB.out]; omega)
       omega
      clear hab HDj
      go_upto_region 12 with fail
      refine start_ (n := 28) (S := fun w' => w'.cell? (aa.add i) = some (.int .i64 qa) ∧ w'.cell? (ab.add j) = some (.int .i64 qb) ∧ w'.cell? ⟨w.heap.size, 0, none⟩ = some (.int .i64 m) ∧ w'.cell? ⟨w.heap.size, 1, none⟩ = some S1 ∧ w'.cell? ⟨w.heap.size, 2, none⟩ = some S2 ∧ w'.cell? ⟨w.heap.size, 3, none⟩ = some S3 ∧ w'.cell? ⟨go, 0, none⟩ = some (.int .i64 x0) ∧ w'.cell? ⟨gp, 0, none⟩ = some (.int .i64 y0)) (ds := []) (bA_ 28 0) (by kernel_rfl) rfl rfl ⟨ha', hb', c0, c1, c2, c3, kx, ky⟩ (fun hHeld => ?_)
      refine p2_ 0 52 (bA_ 28 1) ?_
      refine p2_ 1 53 (bA_ 28 3) ?_
      refine p2_ 2 54 (bA_ 28 7) ?_
      refine p2_ 4 56 (bA_ 28 23) ?_
      refine p2_ 5 57 (bA_ 28 55) ?_
      refine p2_ 6 58 (bA_ 28 119) ?_
      refine t2_ 3 55 (bA_ 28 127) hHeld ?_ (hy := by rintro w' ⟨s0, s1, s2, s3, s4, s5, s6, s7⟩; go_simp; with_reducible rfl)
      refine t2_ 7 59 (bA_ 28 255) hHeld ?_ (hy := by rintro w' ⟨s0, s1, s2, s3, s4, s5, s6, s7⟩; go_simp; with_reducible rfl)
      refine p2_ 8 60 (bA_ 28 511) ?_
      refine p2_ 9 61 (bA_ 28 1023) ?_
      refine p2_ 11 63 (bA_ 28 3071) ?_
      refine p2_ 12 64 (bA_ 28 7167) ?_
      refine p2_ 13 65 (bA_ 28 15359) ?_
      refine p2_ 15 67 (bA_ 28 48127) ?_
      refine p2_ 16 68 (bA_ 28 113663) ?_
      refine p2_ 17 69 (bA_ 28 244735) ?_
      refine p2_ 19 71 (bA_ 28 769023) ?_
      refine p2_ 20 72 (bA_ 28 1817599) ?_
      refine p2_ 22 74 (bA_ 28 6011903) ?_
      refine t2_ 10 62 (bA_ 28 6012927) hHeld ?_ (hy := by rintro w' ⟨s0, s1, s2, s3, s4, s5, s6, s7⟩; go_simp; with_reducible rfl)
      refine t2_ 14 66 (bA_ 28 6029311) hHeld ?_ (hy := by rintro w' ⟨s0, s1, s2, s3, s4, s5, s6, s7⟩; go_simp; with_reducible rfl)
      refine t2_ 18 70 (bA_ 28 6291455) hHeld ?_ (hy := by rintro w' ⟨s0, s1, s2, s3, s4, s5, s6, s7⟩; go_simp; with_reducible rfl)
      refine t2_ 21 73 (bA_ 28 8388607) hHeld ?_ (hy := by rintro w' ⟨s0, s1, s2, s3, s4, s5, s6, s7⟩; go_simp; with_reducible rfl)
      refine t2_ 23 75 (bA_ 28 16777215) hHeld ?_ (hy := by rintro w' ⟨s0, s1, s2, s3, s4, s5, s6, s7⟩; go_simp; with_reducible rfl)
      refine p2_ 24 76 (bA_ 28 33554431) ?_
      refine o2_ 25 77 (bA_ 28 67108863) (fun K hK => ?_)
      refine g2_ Tryz.func113 #[.agg #[.int .i64 m, S1, S2, S3], .int .i64 qa, .int .i64 qb, .int .i64 v, .int .i64 (x0 + y0)] ?_
      with_reducible refine (HNE.out _ (HG4.out.trans (HG8.out.drew.mono hw4)) qa qb (x0 + y0)).mono ?_
      rintro e w9 ⟨bn, rfl, hbn, g9⟩
      refine ⟨_, rfl, ?_⟩
      refine hK.out _ _ ⟨(g9.cell (World.block_lt_of_cell? _ _ hHeld.1) ▸ hHeld.1), (g9.cell (World.block_lt_of_cell? _ _ hHeld.2.1) ▸ hHeld.2.1), (g9.cell (World.block_lt_of_cell? _ _ hHeld.2.2.1) ▸ hHeld.2.2.1), (g9.cell (World.block_lt_of_cell? _ _ hHeld.2.2.2.1) ▸ hHeld.2.2.2.1), (g9.cell (World.block_lt_of_cell? _ _ hHeld.2.2.2.2.1) ▸ hHeld.2.2.2.2.1), (g9.cell (World.block_lt_of_cell? _ _ hHeld.2.2.2.2.2.1) ▸ hHeld.2.2.2.2.2.1), (g9.cell (World.block_lt_of_cell? _ _ hHeld.2.2.2.2.2.2.1) ▸ hHeld.2.2.2.2.2.2.1), (g9.cell (World.block_lt_of_cell? _ _ hHeld.2.2.2.2.2.2.2) ▸ hHeld.2.2.2.2.2.2.2)⟩ (fun hHeld => ?_)
      clear hK K
      refine n2_ 77 ?_
      refine p2_ 26 78 (bA_ 28 134217727) ?_
      refine p2_ 27 79 (bA_ 28 268435455) ?_
      refine done_ (by kernel_rfl) ?_
      have HG9 : Hid (Below W4.heap.size W4 w9) := Lib.hid (HG8.out.drew.trans (g9.mono HG8.out.drew.size))
      have HX9 := Lib.hid (Kd.R_below (Kd.R_drew HX8.out) g9)
      have HO9 : Hid (w9.heap[go]? = some (.cells #[.int .i64 x0, .int .i64 x1, .int .i64 x2] 69 (0, 0))) := Lib.hid ((g9.block _ (blk_lt HO8.out)).trans HO8.out)
      have HY9 : Hid (w9.heap[gp]? = some (.cells #[.int .i64 y0, .int .i64 y1, .int .i64 y2] 69 (0, 0))) := Lib.hid ((g9.block _ (blk_lt HY8.out)).trans HY8.out)
      have HBN := Lib.hid hbn
      clear g9 hbn kx ky c0 c1 c2 c3 l0 ha' hb'
      cases bn with
      | true =>
       have HD2 := Lib.hid (HDN.out (HBN.out rfl))
       go_wp2_with fail
       go_roundw
       case measure => simp [intOf]; omega
       case rel => exact ⟨xs, j + 1, by go_num, by omega, HX9, HG9, HD2, HO9⟩
      | false =>
       obtain ⟨ha', hb', _⟩ := HCC.out w9 HG9.out
       have kx := (blk_cell HO9.out 0).trans rfl
       have ky := (blk_cell HY9.out 0).trans rfl
       have HX9d := Lib.hid (Kd.R_drew HX9.out)
       have HG9d := Lib.hid HG9.out.drew
       have HO9d : Hid (w9.drew.heap[go]? = some (.cells #[.int .i64 x0, .int .i64 x1, .int .i64 x2] 69 (0, 0))) := Lib.hid HO9.out
       go_upto_region 13 with fail
       clear HX9 HG9 HO9
       rename Hid (Kd.R k71 71 w9.drew W4.heap.size _ _ _) => HX9
       rename Hid (Below W4.heap.size W4 w9.drew) => HG9
       rename Hid (w9.drew.heap[go]? = _) => HO9
       refine start_ (n := 20) (S := fun w' => w'.cell? (aa.add i) = some (.int .i64 qa) ∧ w'.cell? (ab.add j) = some (.int .i64 qb) ∧ w'.cell? ⟨go, 0, none⟩ = some (.int .i64 x0) ∧ w'.cell? ⟨gp, 0, none⟩ = some (.int .i64 y0)) (ds := [18]) (bA_ 20 0) (by kernel_rfl) rfl rfl ⟨ha', hb', kx, ky⟩ (fun hHeld => ?_)
       refine p2_ 0 80 (bA_ 20 1) ?_
       refine p2_ 1 81 (bA_ 20 3) ?_
       refine p2_ 2 82 (bA_ 20 7) ?_
       refine p2_ 3 83 (bA_ 20 15) ?_
       refine p2_ 5 85 (bA_ 20 47) ?_
       refine p2_ 6 86 (bA_ 20 111) ?_
       refine p2_ 7 87 (bA_ 20 239) ?_
       refine p2_ 9 89 (bA_ 20 751) ?_
       refine p2_ 11 91 (bA_ 20 2799) ?_
       refine p2_ 14 94 (bA_ 20 19183) ?_
       refine t2_ 4 84 (bA_ 20 19199) hHeld ?_ (hy := by rintro w' ⟨s0, s1, s2, s3⟩; go_simp; with_reducible rfl)
       refine t2_ 8 88 (bA_ 20 19455) hHeld ?_ (hy := by rintro w' ⟨s0, s1, s2, s3⟩; go_simp; with_reducible rfl)
       refine t2_ 10 90 (bA_ 20 20479) hHeld ?_ (hy := by rintro w' ⟨s0, s1, s2, s3⟩; go_simp; with_reducible rfl)
       refine t2_ 12 92 (bA_ 20 24575) hHeld ?_ (hy := by rintro w' ⟨s0, s1, s2, s3⟩; go_simp; with_reducible rfl)
       refine p2_ 13 93 (bA_ 20 32767) ?_
       refine p2_ 15 95 (bA_ 20 65535) ?_
       refine p2_ 16 96 (bA_ 20 131071) ?_
       refine o2_ 17 97 (bA_ 20 262143) (fun K hK => ?_)
       refine value_ (w1 := ?_) (v := ?_) (by rfl) rfl ?_ ?_
       rotate_left 2
       ·go_simp
        constructor
        ·rfl
        ·rfl
       refine hK.out _ _ ⟨(cell_allocN hHeld.1), (cell_allocN hHeld.2.1), (cell_allocN hHeld.2.2.1), (cell_allocN hHeld.2.2.2)⟩ (fun hHeld => ?_)
       clear hK K
       refine n2_ 97 ?_
       refine last_ (i := 18) (N := some 98) (bA_ 20 524287) rfl rfl (by kernel_rfl) (by decide) (fun K hK => ?_)
       refine Kd.R_append_step k71 (w0 := W4) W4.heap.size (by rfl) (.tmp 80) (.tmp 97) 29 71 (.agg #[(.int .i64 0), (.int .i64 0), (.int .i64 0), (.int .i64 0), (.int .i64 0)]) 40 rfl Tryz.underlying29 info66N rfl (by decide) (by omega) _ xs (⟨qa, qb, ⟨x0 + y0, v, -1⟩⟩ : S71) [.int .i64 qa, .int .i64 qb, .int .i64 (x0 + y0), .int .i64 v, .int .i64 (-1)] (fun _ => True) (fun _ => False) rfl rfl (k71_mkM _ _ _ (⟨qa, qb, ⟨x0 + y0, v, -1⟩⟩ : S71)) (fun _ h => h.elim) (fun _ _ => trivial) HX9.out HG9.out HG9.out.size hmax ?_
       intro v7' w10 hR hB hg _
       have HR10 := Lib.hid hR
       have HB10 := Lib.hid hB
       have HO10 : Hid (w10.heap[go]? = some (.cells #[.int .i64 x0, .int .i64 x1, .int .i64 x2] 69 (0, 0))) := Lib.hid ((hg.block go (blk_lt HO9.out) (Kd.R_ne HX9.out HO9.out (by decide))).trans HO9.out)
       clear hR hB hg
       refine hK.out _ _ ?_
       clear hK K
       refine n2_ 98 ?_
       refine p2_ 19 7 (bA_ 20 1048575) ?_
       refine done_ (by kernel_rfl) ?_
       go_wp2_with fail
       go_roundw
       case measure => simp [intOf]; omega
       case rel => exact ⟨_, j + 1, by go_num, by omega, HR10, HB10, HDA, HO10⟩
    ·have hjl : nb ≤ j := by omega
     have HD2 : Hid (DN t v la lb xs (i + 1) 0) := Lib.hid (DN.next (by have := HDj.out; rw [show j = lb.length by rw [HNB.out]; omega] at this; exact this))
     go_wp2_with fail
     go_roundw
     case measure => simp [intOf]; omega
     case rel => exact ⟨xs, i + 1, by go_num, by omega, HXj, HGj, HD2⟩
  ·have hil : na ≤ i := by omega
   have HIE : Hid (i = na) := Lib.hid (by omega)
   go_wp2_with fail
   go_ret
   obtain ⟨A, c, e1, e2, e3⟩ := Kd.R_reads HX.out
   exact ⟨A, c, xs, by rw [e1]; rfl, e2, by rw [← e1]; exact Kd.R_lower HX.out HG4.out.size, HEND.out xs (by rw [← HIE.out]; exact HD.out), HG4.out.trans (HG.out.mono HG4.out.size)⟩
end Go.Proofs.YtfkejflmhidnaaaGreat.PAll
