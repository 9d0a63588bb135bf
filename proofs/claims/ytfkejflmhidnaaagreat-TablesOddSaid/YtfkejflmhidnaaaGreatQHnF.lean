import Derived.Test.YtfkejflmhidnaaaGreatQHnE
set_option linter.all false
namespace Go.Proofs.YtfkejflmhidnaaaGreat.PAll
open RowKit YtfkejflmhidnaaaGreatW.PrintWords YtfkejflmhidnaaaGreatW.PrintLast YtfkejflmhidnaaaGreatW.PrintMore
open Hp hiding Good
theorem info3z : (Tryz.prog.info? 3).map (fun i => (i.zero, i.size, i.bytes)) = some (some (.int .i64 0), 1, 8) := by kernel_rfl
theorem info66z : (Tryz.prog.info? 71).map (fun i => (i.zero, i.size, i.bytes)) = some (some (.agg #[.int .i64 0, .int .i64 0, .int .i64 0, .int .i64 0, .int .i64 0]), 5, 40) := by kernel_rfl
theorem info67z : (Tryz.prog.info? 72).map (fun i => (i.zero, i.size, i.bytes)) = some (some (.slice none 0 0), 1, 24) := by kernel_rfl
theorem two_new (W : World) (Bo n u d : Nat) (hn : n ≤ 1000000) (hu : Bo ≤ u) (hd : Bo ≤ d) (hne : u ≠ d) (h1 : W.heap[u]? = some (.cells (madeCells #[.slice none 0 0] n) 72 (0, 0))) (h2 : W.heap[d]? = some (.cells (madeCells #[.slice none 0 0] n) 72 (0, 0))) :
  Two W Bo Bo (fun b => if b = true then u else d) n (fun _ => List.replicate n (.slice none 0 0)) (fun _ => List.replicate n []) := by
 have own : ∀ g, Bo ≤ g → W.heap[g]? = some (.cells (madeCells #[.slice none 0 0] n) 72 (0, 0)) → W.ownsRow Bo 72 1 (.slice (some ⟨g, 0, none⟩) n n) n (List.replicate n (.slice none 0 0)) := fun g hg h => by
  refine ⟨by simp, .inr ⟨g, n, _, rfl, hg, h, Nat.le_refl _, Nat.le_trans hn (by decide), by simp [size_madeCells], ?_⟩⟩
  rw [toList_madeCells_one]
  simp
 have gd : ∀ j, (List.replicate n (Value.slice none 0 0)).getD j (.slice none 0 0) = .slice none 0 0 := fun j => by
  simp only [List.getD, List.getElem?_replicate]
  split <;> rfl
 refine ⟨fun b => ?_, fun b c h => ?_, fun b => by simp, fun b j hj => ?_, fun b c i j hi hj _ k hk => ?_⟩
 ·cases b
  ·exact own d hd h2
  ·exact own u hu h1
 ·cases b <;> cases c
  ·exact absurd rfl h
  ·exact fun e => hne e.symm
  ·exact hne
  ·exact absurd rfl h
 ·rw [gd]
  have : (List.replicate n ([] : List S75)).getD j [] = [] := by
   simp only [List.getD, List.getElem?_replicate]
   split <;> rfl
  rw [this]
  exact World.ownsRow_nil _ _ _ _
 ·rw [gd] at hk
  simp [Value.ownBlock] at hk
theorem Two.held {w w1 : World} {Bo Be n : Nat} {G : Bool → Nat} {V : Bool → List Value} {P : Bool → List (List S75)} (h : Two w Bo Be G n V P) (b : Bool) (j : Nat) (hj : j < n)
  (hO : Only w w1 (fun k => ((V b).getD j (.slice none 0 0)).ownBlock = some k)) (c : Bool) (i : Nat) (hi : i < n) : w1.cell? ⟨G c, i, none⟩ = some ((V c).getD i (.slice none 0 0)) ∧ w1.frozen? ⟨G c, i, none⟩ = false ∧ G c < w1.heap.size := by
 have own1 : w1.ownsRow Bo 72 1 (.slice (some ⟨G c, 0, none⟩) n n) n (V c) := own_only (h.own c) hO (fun k hk e => by
  cases hk
  obtain ⟨cells, hc⟩ := own_typed (h.row b j hj) _ e
  obtain ⟨cur, hg⟩ := own_blk (h.own c)
  exact ne_typed hc hg (by decide) rfl)
 have hv := h.vlen c
 refine ⟨?_, World.ownsRow.frozenAt own1 i, (World.ownsRow.lt own1 _ rfl).2⟩
 rw [World.ownsRow.cellAt own1 i (by omega)]
 simp [List.getD, hv, hi]
theorem buildB_len (rank : List Int) (ways : List S71) (n : Nat) : ∀ (i : Nat) (b : Bool) (j : Nat), ((buildB rank ways n i b).getD j []).length ≤ i
 | 0, b, j => by
  show ((List.replicate n ([] : List S75)).getD j []).length ≤ 0
  simp only [List.getD, List.getElem?_replicate]
  split <;> simp
 | i + 1, b, j => by
  have step : ∀ (c : Bool) (k : Nat) (e : S75), ((updB (buildB rank ways n i) c ((buildB rank ways n i c).set k (putP ((buildB rank ways n i c).getD k []) e)) b).getD j []).length ≤ i + 1 := fun c k e => by
   by_cases hb : b = c
   ·subst hb
    rw [updB_same]
    by_cases hj : j = k
    ·subst hj
     rcases Nat.lt_or_ge j (buildB rank ways n i b).length with h | h
     ·rw [getD_set_same _ _ _ _ h, len_putP]
      have := buildB_len rank ways n i b j
      omega
     ·have : ((buildB rank ways n i b).set j (putP ((buildB rank ways n i b).getD j []) e)).getD j [] = [] := by simp [List.getD, h]
      rw [this]
      simp
    ·rw [getD_set_ne' _ _ _ _ _ hj]
     have := buildB_len rank ways n i b j
     omega
   ·rw [updB_ne _ _ hb]
    have := buildB_len rank ways n i b j
    omega
  show ((stepB rank (buildB rank ways n i) i (rd_T71 ways (i : Int)) b).getD j []).length ≤ i + 1
  unfold stepB
  split
  ·exact step true _ _
  ·exact step false _ _
theorem six (W : World) (xb u d n : Nat) (c0 c1 c2 c3 : Value) (hn : n ≤ 1000000) (hx : W.heap[xb]? = some (.cells #[c0, c1, c2, c3, .slice none 0 0, .slice none 0 0] 67 (0, 0))) (h : (u = W.heap.size ∧ d = W.heap.size + 1) ∨ (u = W.heap.size + 1 ∧ d = W.heap.size))
  (W6 : World) (h6 : W6 = ((((W.setCell ⟨xb, 4, none⟩ (.slice (some ⟨u, 0, none⟩) n n)).setCell ⟨xb, 5, none⟩ (.slice (some ⟨d, 0, none⟩) n n)).alloc (.cells (madeCells #[.slice none 0 0] n) 72)).alloc (.cells (madeCells #[.slice none 0 0] n) 72)).drew) :
  Hid (W6.heap[xb]? = some (.cells #[c0, c1, c2, c3, .slice (some ⟨u, 0, none⟩) n n, .slice (some ⟨d, 0, none⟩) n n] 67 (0, 0))) ∧ Hid (W.heap.size ≤ u ∧ W.heap.size ≤ d ∧ u ≠ d) ∧ Hid (Two W6 W.heap.size W.heap.size (fun b => if b = true then u else d) n (fun _ => List.replicate n (.slice none 0 0)) (fun _ => List.replicate n [])) ∧ Hid (Only W W6 (fun k => k = xb)) := by
 have hlx := blk_lt hx
 obtain ⟨Wa, ha⟩ : ∃ Wa, (W.setCell ⟨xb, 4, none⟩ (.slice (some ⟨u, 0, none⟩) n n)).setCell ⟨xb, 5, none⟩ (.slice (some ⟨d, 0, none⟩) n n) = Wa := ⟨_, rfl⟩
 have hxa : Wa.heap[xb]? = some (.cells #[c0, c1, c2, c3, .slice (some ⟨u, 0, none⟩) n n, .slice (some ⟨d, 0, none⟩) n n] 67 (0, 0)) := by
  rw [← ha]
  exact blk_set (blk_set hx 4 _) 5 _
 have hOa : Only W Wa (fun k => k = xb) := by
  rw [← ha]
  exact ((Only.refl W (fun k => k = xb)).cell _ _ _ rfl).cell _ _ _ rfl
 have hsa : Wa.heap.size = W.heap.size := by rw [← ha]; simp
 rw [ha] at h6
 obtain ⟨Wb, hb⟩ : ∃ Wb, Wa.alloc (.cells (madeCells #[.slice none 0 0] n) 72) = Wb := ⟨_, rfl⟩
 have hsb : Wb.heap.size = W.heap.size + 1 := by rw [← hb]; simp [hsa]
 have kb : Wb.heap[W.heap.size]? = some (.cells (madeCells #[.slice none 0 0] n) 72 (0, 0)) := by rw [← hb, ← hsa]; exact blk_new Wa _
 have hxb' : Wb.heap[xb]? = Wa.heap[xb]? := by rw [← hb]; exact Below.heap_alloc _ _ _ (by omega)
 rw [hb] at h6
 have k1 : W6.heap[W.heap.size]? = some (.cells (madeCells #[.slice none 0 0] n) 72 (0, 0)) := by
  rw [h6]
  exact (Below.heap_alloc Wb _ _ (by omega)).trans kb
 have k2 : W6.heap[W.heap.size + 1]? = some (.cells (madeCells #[.slice none 0 0] n) 72 (0, 0)) := by
  rw [h6, ← hsb]
  exact blk_new Wb _
 have k3 : W6.heap[xb]? = Wa.heap[xb]? := by
  rw [h6]
  exact (Below.heap_alloc Wb _ _ (by omega)).trans hxb'
 have hO6 : Only W W6 (fun k => k = xb) := by
  rw [h6, ← hb]
  exact ((hOa.alloc _).alloc _).drew
 refine ⟨Lib.hid (k3.trans hxa), Lib.hid (by omega), Lib.hid ?_, Lib.hid hO6⟩
 rcases h with ⟨rfl, rfl⟩ | ⟨rfl, rfl⟩
 ·exact two_new _ _ _ _ _ hn (by omega) (by omega) (by omega) k1 k2
 ·exact two_new _ _ _ _ _ hn (by omega) (by omega) (by omega) k2 k1
set_option maxRecDepth 100000 in
set_option maxHeartbeats 4000000 in
theorem hnew_walk (w : World) (n : Nat) (rank : List Int) (ways : List S71) (V : VH n rank ways) (rA wA : Option Addr) (rc wc : Nat) (hr : Kd.C (Kd.int .i64) w rA n rank) (hw : Kd.C k71 w wA ways.length ways) :
  Calls Tryz.prog 12 #[.agg #[.slice rA n rc, .slice wA ways.length wc]] w fun r w' => ∃ xb x, r = .returned (.pointer (some ⟨xb, 0, none⟩)) ∧ HierRep w' xb n ⟨rank, x, buildB rank ways n ways.length true, buildB rank ways n ways.length false⟩ ∧ (∀ u : Nat, u < n → rd x (rd rank u) = u) ∧ Below w.heap.size w w' := by
 have hn := V.small
 have hf := V.few
 have HV := Lib.hid V
 have hrl := V.rl
 obtain ⟨w0, hw0⟩ : ∃ w0, w.alloc (.cells #[.slice rA n rc, .slice wA ways.length wc] 31) = w0 := ⟨_, rfl⟩
 have B0 : Below w.heap.size w w0 := by rw [← hw0]; exact (Below.refl _ _).alloc (Nat.le_refl _) _
 have hs0 : w0.heap.size = w.heap.size + 1 := by rw [← hw0]; simp
 have bt0 : w0.heap[w.heap.size]? = some (.cells #[.slice rA n rc, .slice wA ways.length wc] 31 (0, 0)) := by rw [← hw0]; exact blk_new w _
 have HR := Lib.hid (Kd.C_below hr B0)
 have HW := Lib.hid hw
 have HB0 := Lib.hid B0
 have HS0 := Lib.hid hs0
 have HBT := Lib.hid bt0
 have HW0 := Lib.hid hw0
 have HB00 := Lib.hid (Below.refl w0.heap.size w0)
 obtain ⟨len, hlen⟩ : ∃ len, ways.length = len := ⟨_, rfl⟩
 have HLEN := Lib.hid hlen
 rw [hlen] at hf HBT HW0 HW ⊢
 have p0 := (blk_cell HBT.out 0).trans rfl
 have p1 := (blk_cell HBT.out 1).trans rfl
 have q0 := blk_frozen HBT.out 0
 have hlt := blk_lt HBT.out
 clear V hr hw B0 hs0 bt0 hw0 hlen
 go_enter Tryz.func12, Tryz.ntmps12
 go_upto_region 1 with (fail)
 rw [HW0.out]
 go_upto_region 2 with (first | (at_builtin; refine Kd.R_append_rows (Kd.int .i64) (w0 := w0) w0.heap.size rfl (.const (.slice none 0 0)) (.tmp 8) 28 3 (.int .i64 0) 8 rfl Tryz.underlying28 info3z rfl (by decide) (by omega) (.slice none 0 0) ([] : List Int) rank rA n rc (fun _ => True) (fun _ => False) rfl rfl (Kd.R_nil _ _ _ _ _) HR.out (fun x cs hx => hx) (fun _ h => h.elim) (fun _ _ => trivial) HB00.out (Nat.le_refl _) (by simp; omega) ?_; intro v1 w1 hR1 hB1 _ _; rw [List.nil_append] at hR1; obtain ⟨A1, c1, hv1, hc1, _⟩ := Kd.R_reads hR1; rw [hrl] at hv1; subst hv1; have HR1 := Lib.hid hR1; have HB1 := Lib.hid hB1; have HBT1 := Lib.hid ((hB1.block _ hlt).trans HBT.out); have q1 := blk_frozen HBT1.out 0; have p0' := (blk_cell HBT1.out 0).trans rfl; have hlt1 := blk_lt HBT1.out; clear hR1 hB1 p0 p1 q0 hlt))
 have HBT2 : Hid ((w1.setCell ⟨w.heap.size, 0, none⟩ (.slice A1 n c1)).heap[w.heap.size]? = some (.cells #[.slice A1 n c1, .slice wA len wc] 31 (0, 0))) := Lib.hid (blk_set HBT1.out 0 _)
 have HR2 : Hid (Kd.R (Kd.int .i64) 3 (w1.setCell ⟨w.heap.size, 0, none⟩ (.slice A1 n c1)) w0.heap.size (fun _ => True) (.slice A1 n c1) rank) := Lib.hid (Kd.R_set HR1.out HBT1.out (by intro q hq; have : q ∈ [3] := hq; simp at this; omega) 0 _)
 have HB2 : Hid (Below w.heap.size w (w1.setCell ⟨w.heap.size, 0, none⟩ (.slice A1 n c1))) := Lib.hid ((HB0.out.trans (HB1.out.mono HB0.out.size)).setCell (p := ⟨w.heap.size, 0, none⟩) (Nat.le_refl _) _)
 have hsz2 : Hid (w0.heap.size ≤ (w1.setCell ⟨w.heap.size, 0, none⟩ (.slice A1 n c1)).heap.size) := Lib.hid (by have := HB1.out.size; simpa using this)
 generalize w1.setCell ⟨w.heap.size, 0, none⟩ (.slice A1 n c1) = w2 at HBT2 HR2 HB2 hsz2 ⊢
 clear HR1 HB1 HBT1 q1 p0' hlt1 HR
 have p0 := (blk_cell HBT2.out 0).trans rfl
 have p1 := (blk_cell HBT2.out 1).trans rfl
 have hlt := blk_lt HBT2.out
 have HB22 := Lib.hid (Below.refl w2.heap.size w2)
 have HW2 : Hid (Kd.C k71 w2 wA len ways) := Lib.hid (Kd.C_below HW.out HB2.out)
 have hwl : ways.length = len := HLEN.out
 go_upto_region 3 with (first | (at_builtin; refine Kd.R_append_rows k71 (w0 := w2) w2.heap.size rfl (.const (.slice none 0 0)) (.tmp 12) 29 71 (.agg #[.int .i64 0, .int .i64 0, .int .i64 0, .int .i64 0, .int .i64 0]) 40 rfl Tryz.underlying29 info66z rfl (by decide) (by omega) (.slice none 0 0) ([] : List S71) ways wA len wc (fun _ => True) (fun _ => False) rfl rfl (Kd.R_nil _ _ _ _ _) HW2.out (fun x cs hx => by obtain rfl := k71_open hx; exact k71_mkM _ _ _ _) (fun _ h => h.elim) (fun _ _ => trivial) HB22.out (Nat.le_refl _) (by simp; omega) ?_; intro v3 w3 hR3 hB3 _ _; rw [List.nil_append] at hR3; obtain ⟨A2, c2, hv3, hc2, _⟩ := Kd.R_reads hR3; rw [hwl] at hv3; subst hv3; have HWR3 := Lib.hid hR3; have HB3 := Lib.hid hB3; have HBT3 := Lib.hid ((hB3.block _ hlt).trans HBT2.out); have q1 := blk_frozen HBT3.out 1; have p1' := (blk_cell HBT3.out 1).trans rfl; have hlt3 := blk_lt HBT3.out; clear hR3 hB3 p0 p1 hlt))
 have HBT4 : Hid ((w3.setCell ⟨w.heap.size, 1, none⟩ (.slice A2 len c2)).heap[w.heap.size]? = some (.cells #[.slice A1 n c1, .slice A2 len c2] 31 (0, 0))) := Lib.hid (blk_set HBT3.out 1 _)
 have HR4 : Hid (Kd.R (Kd.int .i64) 3 (w3.setCell ⟨w.heap.size, 1, none⟩ (.slice A2 len c2)) w0.heap.size (fun _ => True) (.slice A1 n c1) rank) := Lib.hid (Kd.R_set (Kd.R_below HR2.out HB3.out) HBT3.out (by intro q hq; have : q ∈ [3] := hq; simp at this; omega) 1 _)
 have HWR4 : Hid (Kd.R k71 71 (w3.setCell ⟨w.heap.size, 1, none⟩ (.slice A2 len c2)) w2.heap.size (fun _ => True) (.slice A2 len c2) ways) := Lib.hid (Kd.R_set HWR3.out HBT3.out (by intro q hq; have : q ∈ [71] := hq; simp at this; omega) 1 _)
 have HB4 : Hid (Below w.heap.size w (w3.setCell ⟨w.heap.size, 1, none⟩ (.slice A2 len c2))) := Lib.hid ((HB2.out.trans (HB3.out.mono HB2.out.size)).setCell (p := ⟨w.heap.size, 1, none⟩) (Nat.le_refl _) _)
 generalize w3.setCell ⟨w.heap.size, 1, none⟩ (.slice A2 len c2) = w4 at HBT4 HR4 HWR4 HB4 ⊢
 clear HWR3 HB3 HBT3 q1 p1' hlt3 HR2 HBT2 HB22 HW2 hwl HB2 hsz2
 have HC4 : Hid (Kd.C (Kd.int .i64) w4 A1 n rank) := Lib.hid (by have := (Kd.R_reads' HR4.out).2.2; rw [hrl] at this; exact this)
 have HWC4 : Hid (Kd.C k71 w4 A2 ways.length ways) := Lib.hid (Kd.R_reads' HWR4.out).2.2
 have hck := check_walk w4 n rank ways HV.out A1 A2 c1 c2 HC4.out HWC4.out
 rw [HLEN.out] at hck
 have HCK := Lib.hid hck
 clear hck HR4 HWR4
 have p0 := (blk_cell HBT4.out 0).trans rfl
 have p1 := (blk_cell HBT4.out 1).trans rfl
 have hlt := blk_lt HBT4.out
 go_upto_region 6 with (first | (go_at_call 32; refine HCK.out.mono ?_; rintro e w5 ⟨xb, g, mb, m, x, rfl, hC5, hB5⟩; have HC5 := Lib.hid hC5; have HB5 := Lib.hid hB5; clear hC5 hB5))
 have HBT5 : Hid (w5.heap[w.heap.size]? = some (.cells #[.slice A1 n c1, .slice A2 len c2] 31 (0, 0))) := Lib.hid ((HB5.out.block _ hlt).trans HBT4.out)
 have HXB5 : Hid (w5.heap[xb]? = some (.cells #[.slice A1 n c1, .slice A2 len c2, .slice (some ⟨g, 0, none⟩) n n, .map (some mb), .slice none 0 0, .slice none 0 0] 67 (0, 0))) := Lib.hid (by have := HC5.out.blk; rw [HLEN.out] at this; exact this)
 have HTN := Lib.hid (blk_ne HBT5.out HXB5.out (by decide))
 clear p0 p1 hlt HBT4 HB0 HS0 HB00
 have p0 := (blk_cell HBT5.out 0).trans rfl
 have p1 := (blk_cell HBT5.out 1).trans rfl
 have x4 := (blk_cell HXB5.out 4).trans rfl
 have x5 := (blk_cell HXB5.out 5).trans rfl
 have z4 := blk_frozen HXB5.out 4
 have z5 := blk_frozen HXB5.out 5
 have hlt := blk_lt HBT5.out
 have hlx := blk_lt HXB5.out
 have htn := HTN.out
 have htn' : ¬ xb = w.heap.size := fun e => htn e.symm
 have hmk : ∀ W : World, (Instr.makeSlice 64 (.int .i64 (n : Int)) (.int .i64 (n : Int))).run Tryz.prog W = .ok (.slice (some ⟨W.heap.size, 0, none⟩) n n) (W.alloc (.cells (madeCells #[.slice none 0 0] n) 72)) := by
  intro W
  obtain ⟨i0, hi0, hz0, hz1, hz2⟩ := info_parts info67z
  have := run_makeSlice (P := Tryz.prog) W 64 72 i0 (.slice none 0 0) Tryz.underlying64 hi0 hz0 .i64 .i64 (n : Int) (n : Int) (by omega) (by omega) (by rw [hz1]; omega) (by rw [hz2]; omega) (by omega)
  rw [hz1] at this
  simpa [Value.cells] using this
 go_cut [] from 22 to 35 (fun wd => ∃ u d : Nat, Hid (wd.heap[xb]? = some (.cells #[.slice A1 n c1, .slice A2 len c2, .slice (some ⟨g, 0, none⟩) n n, .map (some mb), .slice (some ⟨u, 0, none⟩) n n, .slice (some ⟨d, 0, none⟩) n n] 67 (0, 0))) ∧ Hid (w5.heap.size ≤ u ∧ w5.heap.size ≤ d ∧ u ≠ d) ∧ Hid (Two wd w5.heap.size w5.heap.size (fun b => if b = true then u else d) n (fun _ => List.replicate n (.slice none 0 0)) (fun _ => List.replicate n [])) ∧ Hid (Only w5 wd (fun k => k = xb)))
 case first =>
  go_region
  all_goals go_wp2_with fail
  all_goals go_meet
  ·exact ⟨_, _, six w5 xb _ _ n _ _ _ _ (by omega) HXB5.out (.inl ⟨rfl, rfl⟩) _ rfl⟩
  ·exact ⟨_, _, six w5 xb _ _ n _ _ _ _ (by omega) HXB5.out (.inr ⟨rfl, rfl⟩) _ rfl⟩
 case rest =>
  obtain ⟨u, d, HXB6, HUD, HT6, HO6⟩ := hcut
  clear p0 p1 x4 x5 z4 z5 hlt hlx htn htn' hmk
  have HBT6 := Lib.hid ((HO6.out.block _ (blk_lt HBT5.out) HTN.out).trans HBT5.out)
  have p0 := (blk_cell HBT6.out 0).trans rfl
  have p1 := (blk_cell HBT6.out 1).trans rfl
  go_wp2_with fail
  clear p0 p1
  have HX4 : Hid (w4.heap.size ≤ xb) := Lib.hid HC5.out.new
  have HB6 : Hid (Below w4.heap.size w4 wc) := Lib.hid (HB5.out.trans (Only.below HO6.out HB5.out.size (fun k e => by rw [e]; exact HX4.out)))
  have HBB : Hid (w5.heap.size ≤ wc.heap.size) := Lib.hid HO6.out.size
  have h45 := HB5.out.size
  go_loopw [39] (fun v39 wr => ∃ i : Nat, v39 = .int .i64 i ∧ i ≤ len ∧ Hid (∃ V, Two wr w5.heap.size w5.heap.size (fun b => if b = true then u else d) n V (buildB rank ways n i)) ∧ Hid (Below w5.heap.size wc wr)) (fun v39 _ => len - (intOf v39).toNat)
  case atStart => exact ⟨0, rfl, by omega, Lib.hid ⟨_, HT6.out⟩, Lib.hid (Below.refl _ _)⟩
  case round =>
   obtain ⟨i, rfl, hi, HTW, HBL⟩ := hrel
   have HBT7 := Lib.hid ((HBL.out.block _ (blk_lt HBT5.out)).trans HBT6.out)
   have HXB7 := Lib.hid ((HBL.out.block _ (blk_lt HXB5.out)).trans HXB6.out)
   have HBR : Hid (Below w4.heap.size w4 wr) := Lib.hid (HB6.out.trans (HBL.out.mono h45))
   have hlt := blk_lt HBT7.out
   have hlx := blk_lt HXB7.out
   by_cases hil : i < len
   ·obtain ⟨ad, rfl, r0, r1, r2, r3, r4⟩ := at_T71 (Kd.C_below HWC4.out HBR.out) (i : Int) (by omega) (by have := HLEN.out; omega)
    have HMEM := Lib.hid (rd66_mem ways i (by have := HLEN.out; omega))
    have HST : Hid (buildB rank ways n (i + 1) = stepB rank (buildB rank ways n i) i (rd_T71 ways (i : Int))) := Lib.hid rfl
    have HEN := Lib.hid (HV.out.ends _ HMEM.out)
    simp only [Int.toNat_natCast] at r0 r1 r2 r3 r4
    generalize rd_T71 ways (i : Int) = e at *
    obtain ⟨a, b, xx, y, z⟩ := e
    simp only at r0 r1 r2 r3 r4
    obtain ⟨a0, a1, b0, b1, _, _, _⟩ := HEN.out
    simp only at a0 a1 b0 b1
    obtain ⟨a, rfl⟩ := Int.eq_ofNat_of_zero_le a0
    obtain ⟨b, rfl⟩ := Int.eq_ofNat_of_zero_le b0
    have hi0 : (0 : Int) ≤ (i : Int) := Int.natCast_nonneg _
    have hi1 : (i : Int) < (len : Int) := by omega
    go_upto_region 10 with (fail)
    obtain ⟨V, hT⟩ := HTW.out
    have h5r : w5.heap.size ≤ wr.heap.size := Nat.le_trans HBB.out HBL.out.size
    have HT7 := Lib.hid (hT.only (S := fun _ => False) ((Only.refl wr _).alloc (.cells #[.int .i64 a, .int .i64 b, .int .i64 xx, .int .i64 y, .int .i64 z] 71)) (fun _ f => f) (fun _ _ f => f))
    have HBL7 := Lib.hid (HBL.out.alloc h5r (.cells #[.int .i64 a, .int .i64 b, .int .i64 xx, .int .i64 y, .int .i64 z] 71))
    have HEX7 := Lib.hid (blk_new wr (.cells #[.int .i64 a, .int .i64 b, .int .i64 xx, .int .i64 y, .int .i64 z] 71))
    have H5R := Lib.hid h5r
    obtain ⟨b6, hb6⟩ : ∃ b6, wr.heap.size = b6 := ⟨_, rfl⟩
    rw [hb6] at HEX7 H5R ⊢
    generalize wr.alloc (.cells #[.int .i64 a, .int .i64 b, .int .i64 xx, .int .i64 y, .int .i64 z] 71) = w7 at HT7 HBL7 HEX7 ⊢
    clear hT h5r hb6 HBR HBL HTW HBT7 HXB7 hlt hlx r0 r1 r2 r3 r4 HEN
    have HBR7 : Hid (Below w4.heap.size w4 w7) := Lib.hid (HB6.out.trans (HBL7.out.mono h45))
    have HBT7 := Lib.hid ((HBL7.out.block _ (blk_lt HBT5.out)).trans HBT6.out)
    have HXB7 := Lib.hid ((HBL7.out.block _ (blk_lt HXB5.out)).trans HXB6.out)
    obtain ⟨adr, rfl, ra⟩ := Kd.at_int (Kd.C_below HC4.out HBR7.out) (a : Int) (by omega) (by omega)
    obtain ⟨adr', hadr, rb⟩ := Kd.at_int (Kd.C_below HC4.out HBR7.out) (b : Int) (by omega) (by omega)
    obtain rfl : adr = adr' := by simpa using hadr
    have ra' : w7.cell? (adr.add a) = some (.int .i64 (rd rank a)) := ra
    have rb' : w7.cell? (adr.add b) = some (.int .i64 (rd rank b)) := rb
    have p0 := (blk_cell HBT7.out 0).trans rfl
    have e0 := (blk_cell HEX7.out 0).trans rfl
    have e1 := (blk_cell HEX7.out 1).trans rfl
    have hlt := blk_lt HBT7.out
    have hle := blk_lt HEX7.out
    have hI : Hid (rd rank a < rd rank b ∨ ¬ rd rank a < rd rank b) := Lib.hid (Classical.em _)
    have HST := HST
    generalize hra : rd rank a = ka at *
    generalize hrb : rd rank b = kb at *
    clear ra rb hadr
    by_cases hx : ka < kb
    ·have hd : decide (ka < kb) = true := by simpa using hx
     go_wp2_with fail
     all_goals go_quiet (fail)
     all_goals go_upto_region 11 with (fail)
     have HT8 := Lib.hid (HT7.out.only (S := fun _ => False) ((Only.refl w7 _).drewN nq) (fun _ f => f) (fun _ _ f => f))
     have HBL8 : Hid (Below w5.heap.size wc (w7.drewN nq)) := Lib.hid ⟨HBL7.out.os, HBL7.out.tape, HBL7.out.output, HBL7.out.size, HBL7.out.block⟩
     have HEX8 : Hid ((w7.drewN nq).heap[b6]? = some (.cells #[.int .i64 a, .int .i64 b, .int .i64 xx, .int .i64 y, .int .i64 z] 71 (0, 0))) := Lib.hid HEX7.out
     have HXB8 : Hid ((w7.drewN nq).heap[xb]? = _) := Lib.hid HXB7.out
     generalize w7.drewN nq = w8 at HT8 HBL8 HEX8 HXB8 ⊢
     clear p0 e0 e1 hlt hle ra' rb' HT7 HBL7 HEX7 HXB7 HBT7 HBR7 hI
     have e0 := (blk_cell HEX8.out 0).trans rfl
     have e1 := (blk_cell HEX8.out 1).trans rfl
     have e2 := (blk_cell HEX8.out 2).trans rfl
     have hle := blk_lt HEX8.out
     have x4 := (blk_cell HXB8.out 4).trans rfl
     have hlx := blk_lt HXB8.out
     have ha0 : (0 : Int) ≤ (a : Int) := Int.natCast_nonneg _
     have ha1 : (a : Int) < (n : Int) := a1
     have c8 := (HT8.out.cellOf true a (by omega)).1
     simp only [if_true] at c8
     obtain ⟨va, hva⟩ : ∃ va, (V true).getD a (.slice none 0 0) = va := ⟨_, rfl⟩
     rw [hva] at c8
     have HVA := Lib.hid hva
     clear hva
     have HER : Hid (EdgeRow w8.drew w5.heap.size va ((buildB rank ways n i true).getD a [])) := Lib.hid (by rw [← HVA.out]; exact (HT8.out.row true a (by omega)).only (S := fun _ => False) ⟨rfl, rfl, rfl, Nat.le_refl _, fun _ _ _ => rfl⟩ (fun _ _ f => f))
     have HCALL := Lib.hid (hput_walk w8.drew w5.heap.size va ((buildB rank ways n i true).getD a []) ⟨b, xx, i⟩ HER.out (by have h1 := HBB.out; have h2 := HBL8.out.size; show _ ≤ w8.heap.size; omega) (by have := buildB_len rank ways n i true a; omega))
     have HAFT : Hid (∀ w9 v', PutTo w8.drew w9 w5.heap.size va v' (putP ((buildB rank ways n i true).getD a []) ⟨b, xx, i⟩) →
       w9.cell? ⟨xb, 4, none⟩ = some (.slice (some ⟨u, 0, none⟩) n n) ∧ w9.cell? ⟨b6, 0, none⟩ = some (.int .i64 a) ∧ w9.cell? ⟨b6, 1, none⟩ = some (.int .i64 b) ∧ w9.cell? ⟨b6, 2, none⟩ = some (.int .i64 xx) ∧ w9.cell? ⟨u, a, none⟩ = some va ∧ w9.frozen? ⟨u, a, none⟩ = false ∧ u < w9.heap.size ∧ xb < w9.heap.size ∧ b6 < w9.heap.size ∧
       Hid (Below w5.heap.size wc (w9.setCell ⟨u, a, none⟩ v')) ∧ Hid (∃ V, Two (w9.setCell ⟨u, a, none⟩ v') w5.heap.size w5.heap.size (fun b => if b = true then u else d) n V (updB (buildB rank ways n i) true ((buildB rank ways n i true).set a (putP ((buildB rank ways n i true).getD a []) ⟨b, xx, i⟩))))) := Lib.hid (by
      intro w9 v' hP
      have hO : Only w8 w9 (fun k => ((V true).getD a (.slice none 0 0)).ownBlock = some k) := by rw [HVA.out]; exact ((Only.refl w8 (fun k => va.ownBlock = some k)).drew).trans (hP.2.1.mono (fun k _ hk _ => hk))
      have hlo : ∀ k, ((V true).getD a (.slice none 0 0)).ownBlock = some k → w5.heap.size ≤ k := fun k hk => (World.ownsRow.lt (HT8.out.row true a (by omega)) k hk).1
      have hx9 := (hO.block xb (blk_lt HXB8.out) (fun e => by have h1 := hlo _ e; have h2 := blk_lt HXB5.out; omega)).trans HXB8.out
      have hb9 := (hO.block b6 (blk_lt HEX8.out) (fun e => by
       obtain ⟨cells, hc⟩ := own_typed (HT8.out.row true a (by omega)) _ e
       exact ne_typed hc HEX8.out (by decide) rfl)).trans HEX8.out
      obtain ⟨g1, g2, g3⟩ := HT8.out.held true a (by omega) hO true a (by omega)
      rw [HVA.out] at g1
      have hBw9 : Below w5.heap.size wc w9 := HBL8.out.trans (Only.below hO (Nat.le_trans HBB.out HBL8.out.size) (fun k hk => hlo k hk))
      refine ⟨(blk_cell hx9 4).trans rfl, (blk_cell hb9 0).trans rfl, (blk_cell hb9 1).trans rfl, (blk_cell hb9 2).trans rfl, g1, g2, g3, blk_lt hx9, blk_lt hb9, Lib.hid (hBw9.setCell (p := ⟨u, a, none⟩) HUD.out.1 v'), Lib.hid ⟨_, HT8.out.put true a (by omega) v' _ hP.1 hO (fun k hk hv => by rw [HVA.out]; exact hP.2.2 k hk hv)⟩⟩)
     have HNEXT : Hid (buildB rank ways n (i + 1) = updB (buildB rank ways n i) true ((buildB rank ways n i true).set a (putP ((buildB rank ways n i true).getD a []) ⟨b, xx, i⟩))) := Lib.hid (HST.out.trans (if_pos (by show rd rank a < rd rank b; rw [hra, hrb]; exact hx)))
     clear HER
     have hxu : xb ≠ u := by have := HUD.out.1; have := blk_lt HXB5.out; omega
     have hbu : b6 ≠ u := by
      obtain ⟨cur, hg⟩ := own_blk (HT8.out.own true)
      exact ne_typed HEX8.out hg (by decide)
     refine start_ (n := 24) (S := fun w' => w'.cell? ⟨xb, 4, none⟩ = some (.slice (some ⟨u, 0, none⟩) n n) ∧ w'.cell? ⟨b6, 0, none⟩ = some (.int .i64 a) ∧ w'.cell? ⟨b6, 1, none⟩ = some (.int .i64 b) ∧ w'.cell? ⟨b6, 2, none⟩ = some (.int .i64 xx) ∧ w'.cell? ⟨u, a, none⟩ = some va) (ds := [23]) (bA_ 24 0) (by kernel_rfl) rfl rfl ⟨x4, e0, e1, e2, c8⟩ (fun hHeld => ?_)
     refine p2_ 0 57 (bA_ 24 1) ?_
     refine p2_ 1 58 (bA_ 24 3) ?_
     refine p2_ 2 59 (bA_ 24 7) ?_
     refine p2_ 4 61 (bA_ 24 23) ?_
     refine p2_ 6 63 (bA_ 24 87) ?_
     refine p2_ 7 64 (bA_ 24 215) ?_
     refine p2_ 8 65 (bA_ 24 471) ?_
     refine p2_ 10 67 (bA_ 24 1495) ?_
     refine p2_ 14 71 (bA_ 24 17879) ?_
     refine p2_ 16 73 (bA_ 24 83415) ?_
     refine p2_ 17 74 (bA_ 24 214487) ?_
     refine p2_ 19 76 (bA_ 24 738775) ?_
     refine t2_ 3 60 (bA_ 24 738783) hHeld ?_ (hy := by rintro w' ⟨s0, s1, s2, s3, s4⟩; go_simp; with_reducible rfl)
     refine t2_ 5 62 (bA_ 24 738815) hHeld ?_ (hy := by rintro w' ⟨s0, s1, s2, s3, s4⟩; go_simp; with_reducible rfl)
     refine t2_ 9 66 (bA_ 24 739327) hHeld ?_ (hy := by rintro w' ⟨s0, s1, s2, s3, s4⟩; go_simp; with_reducible rfl)
     refine t2_ 11 68 (bA_ 24 741375) hHeld ?_ (hy := by rintro w' ⟨s0, s1, s2, s3, s4⟩; go_simp; with_reducible rfl)
     refine p2_ 12 69 (bA_ 24 745471) ?_
     refine t2_ 13 70 (bA_ 24 753663) hHeld ?_ (hy := by rintro w' ⟨s0, s1, s2, s3, s4⟩; go_simp; with_reducible rfl)
     refine t2_ 15 72 (bA_ 24 786431) hHeld ?_ (hy := by rintro w' ⟨s0, s1, s2, s3, s4⟩; go_simp; with_reducible rfl)
     refine t2_ 18 75 (bA_ 24 1048575) hHeld ?_ (hy := by rintro w' ⟨s0, s1, s2, s3, s4⟩; go_simp; with_reducible rfl)
     refine p2_ 20 77 (bA_ 24 2097151) ?_
     refine o2_ 21 78 (bA_ 24 4194303) (fun K hK => ?_)
     refine g2_ Tryz.func33 #[va, .agg #[.int .i64 b, .int .i64 xx, .int .i64 i]] ?_
     with_reducible refine (HCALL.out).mono ?_
     rintro _ w9 ⟨v', rfl, hP⟩
     refine ⟨_, rfl, ?_⟩
     obtain ⟨A', c', hv', _, _⟩ := EdgeRow.C hP.1
     obtain ⟨y1, y2, z1, z2, y3, y4, y5, y6, y7, Y8, Y9⟩ := HAFT.out w9 v' hP
     clear hP
     generalize (putP _ _).length = m' at hv'
     subst hv'
     refine hK.out _ _ ⟨y1, y2, z1, z2, y3⟩ (fun hHeld => ?_)
     clear hK K
     refine n2_ 78 ?_
     refine p2_ 22 79 (bA_ 24 8388607) ?_
     refine last_ (i := 23) (N := none) (bA_ 24 16777215) rfl rfl (by kernel_rfl) (by decide) (fun K hK => ?_)
     refine skip_ (w1 := ?_) (by rfl) rfl ?_ ?_
     rotate_left
     ·go_simp
      rfl
     refine hK.out _ _ ?_
     clear hK K
     refine done_ (by kernel_rfl) ?_
     all_goals (try go_wp2_with fail)
     go_roundw
     case measure => simp [intOf]; omega
     case rel => exact ⟨i + 1, by go_num, by omega, Lib.hid (by rw [HNEXT.out]; exact Y9.out), Y8⟩
    ·have hd : decide (ka < kb) = false := by simpa using hx
     go_wp2_with fail
     all_goals go_quiet (fail)
     all_goals go_upto_region 12 with (fail)
     have HT8 := Lib.hid (HT7.out.only (S := fun _ => False) ((Only.refl w7 _).drewN nq) (fun _ f => f) (fun _ _ f => f))
     have HBL8 : Hid (Below w5.heap.size wc (w7.drewN nq)) := Lib.hid ⟨HBL7.out.os, HBL7.out.tape, HBL7.out.output, HBL7.out.size, HBL7.out.block⟩
     have HEX8 : Hid ((w7.drewN nq).heap[b6]? = some (.cells #[.int .i64 a, .int .i64 b, .int .i64 xx, .int .i64 y, .int .i64 z] 71 (0, 0))) := Lib.hid HEX7.out
     have HXB8 : Hid ((w7.drewN nq).heap[xb]? = _) := Lib.hid HXB7.out
     generalize w7.drewN nq = w8 at HT8 HBL8 HEX8 HXB8 ⊢
     clear p0 e0 e1 hlt hle ra' rb' HT7 HBL7 HEX7 HXB7 HBT7 HBR7 hI
     have e0 := (blk_cell HEX8.out 0).trans rfl
     have e1 := (blk_cell HEX8.out 1).trans rfl
     have e2 := (blk_cell HEX8.out 2).trans rfl
     have hle := blk_lt HEX8.out
     have x4 := (blk_cell HXB8.out 5).trans rfl
     have hlx := blk_lt HXB8.out
     have ha0 : (0 : Int) ≤ (b : Int) := Int.natCast_nonneg _
     have ha1 : (b : Int) < (n : Int) := b1
     have c8 := (HT8.out.cellOf false b (by omega)).1
     simp only [Bool.false_eq_true, if_false] at c8
     obtain ⟨va, hva⟩ : ∃ va, (V false).getD b (.slice none 0 0) = va := ⟨_, rfl⟩
     rw [hva] at c8
     have HVA := Lib.hid hva
     clear hva
     have HER : Hid (EdgeRow w8.drew w5.heap.size va ((buildB rank ways n i false).getD b [])) := Lib.hid (by rw [← HVA.out]; exact (HT8.out.row false b (by omega)).only (S := fun _ => False) ⟨rfl, rfl, rfl, Nat.le_refl _, fun _ _ _ => rfl⟩ (fun _ _ f => f))
     have HCALL := Lib.hid (hput_walk w8.drew w5.heap.size va ((buildB rank ways n i false).getD b []) ⟨a, xx, i⟩ HER.out (by have h1 := HBB.out; have h2 := HBL8.out.size; show _ ≤ w8.heap.size; omega) (by have := buildB_len rank ways n i false b; omega))
     have HAFT : Hid (∀ w9 v', PutTo w8.drew w9 w5.heap.size va v' (putP ((buildB rank ways n i false).getD b []) ⟨a, xx, i⟩) →
       w9.cell? ⟨xb, 5, none⟩ = some (.slice (some ⟨d, 0, none⟩) n n) ∧ w9.cell? ⟨b6, 0, none⟩ = some (.int .i64 a) ∧ w9.cell? ⟨b6, 1, none⟩ = some (.int .i64 b) ∧ w9.cell? ⟨b6, 2, none⟩ = some (.int .i64 xx) ∧ w9.cell? ⟨d, b, none⟩ = some va ∧ w9.frozen? ⟨d, b, none⟩ = false ∧ d < w9.heap.size ∧ xb < w9.heap.size ∧ b6 < w9.heap.size ∧
       Hid (Below w5.heap.size wc (w9.setCell ⟨d, b, none⟩ v')) ∧ Hid (∃ V, Two (w9.setCell ⟨d, b, none⟩ v') w5.heap.size w5.heap.size (fun b => if b = true then u else d) n V (updB (buildB rank ways n i) false ((buildB rank ways n i false).set b (putP ((buildB rank ways n i false).getD b []) ⟨a, xx, i⟩))))) := Lib.hid (by
      intro w9 v' hP
      have hO : Only w8 w9 (fun k => ((V false).getD b (.slice none 0 0)).ownBlock = some k) := by rw [HVA.out]; exact ((Only.refl w8 (fun k => va.ownBlock = some k)).drew).trans (hP.2.1.mono (fun k _ hk _ => hk))
      have hlo : ∀ k, ((V false).getD b (.slice none 0 0)).ownBlock = some k → w5.heap.size ≤ k := fun k hk => (World.ownsRow.lt (HT8.out.row false b (by omega)) k hk).1
      have hx9 := (hO.block xb (blk_lt HXB8.out) (fun e => by have h1 := hlo _ e; have h2 := blk_lt HXB5.out; omega)).trans HXB8.out
      have hb9 := (hO.block b6 (blk_lt HEX8.out) (fun e => by
       obtain ⟨cells, hc⟩ := own_typed (HT8.out.row false b (by omega)) _ e
       exact ne_typed hc HEX8.out (by decide) rfl)).trans HEX8.out
      obtain ⟨g1, g2, g3⟩ := HT8.out.held false b (by omega) hO false b (by omega)
      rw [HVA.out] at g1
      have hBw9 : Below w5.heap.size wc w9 := HBL8.out.trans (Only.below hO (Nat.le_trans HBB.out HBL8.out.size) (fun k hk => hlo k hk))
      refine ⟨(blk_cell hx9 5).trans rfl, (blk_cell hb9 0).trans rfl, (blk_cell hb9 1).trans rfl, (blk_cell hb9 2).trans rfl, g1, g2, g3, blk_lt hx9, blk_lt hb9, Lib.hid (hBw9.setCell (p := ⟨d, b, none⟩) HUD.out.2.1 v'), Lib.hid ⟨_, HT8.out.put false b (by omega) v' _ hP.1 hO (fun k hk hv => by rw [HVA.out]; exact hP.2.2 k hk hv)⟩⟩)
     have HNEXT : Hid (buildB rank ways n (i + 1) = updB (buildB rank ways n i) false ((buildB rank ways n i false).set b (putP ((buildB rank ways n i false).getD b []) ⟨a, xx, i⟩))) := Lib.hid (HST.out.trans (if_neg (by show ¬ rd rank a < rd rank b; rw [hra, hrb]; omega)))
     clear HER
     have hxu : xb ≠ d := by have := HUD.out.2.1; have := blk_lt HXB5.out; omega
     have hbu : b6 ≠ d := by
      obtain ⟨cur, hg⟩ := own_blk (HT8.out.own false)
      exact ne_typed HEX8.out hg (by decide)
     refine start_ (n := 24) (S := fun w' => w'.cell? ⟨xb, 5, none⟩ = some (.slice (some ⟨d, 0, none⟩) n n) ∧ w'.cell? ⟨b6, 0, none⟩ = some (.int .i64 a) ∧ w'.cell? ⟨b6, 1, none⟩ = some (.int .i64 b) ∧ w'.cell? ⟨b6, 2, none⟩ = some (.int .i64 xx) ∧ w'.cell? ⟨d, b, none⟩ = some va) (ds := [23]) (bA_ 24 0) (by kernel_rfl) rfl rfl ⟨x4, e0, e1, e2, c8⟩ (fun hHeld => ?_)
     refine p2_ 0 80 (bA_ 24 1) ?_
     refine p2_ 1 81 (bA_ 24 3) ?_
     refine p2_ 2 82 (bA_ 24 7) ?_
     refine p2_ 4 84 (bA_ 24 23) ?_
     refine p2_ 6 86 (bA_ 24 87) ?_
     refine p2_ 7 87 (bA_ 24 215) ?_
     refine p2_ 8 88 (bA_ 24 471) ?_
     refine p2_ 10 90 (bA_ 24 1495) ?_
     refine p2_ 14 94 (bA_ 24 17879) ?_
     refine p2_ 16 96 (bA_ 24 83415) ?_
     refine p2_ 17 97 (bA_ 24 214487) ?_
     refine p2_ 19 99 (bA_ 24 738775) ?_
     refine t2_ 3 83 (bA_ 24 738783) hHeld ?_ (hy := by rintro w' ⟨s0, s1, s2, s3, s4⟩; go_simp; with_reducible rfl)
     refine t2_ 5 85 (bA_ 24 738815) hHeld ?_ (hy := by rintro w' ⟨s0, s1, s2, s3, s4⟩; go_simp; with_reducible rfl)
     refine t2_ 9 89 (bA_ 24 739327) hHeld ?_ (hy := by rintro w' ⟨s0, s1, s2, s3, s4⟩; go_simp; with_reducible rfl)
     refine t2_ 11 91 (bA_ 24 741375) hHeld ?_ (hy := by rintro w' ⟨s0, s1, s2, s3, s4⟩; go_simp; with_reducible rfl)
     refine p2_ 12 92 (bA_ 24 745471) ?_
     refine t2_ 13 93 (bA_ 24 753663) hHeld ?_ (hy := by rintro w' ⟨s0, s1, s2, s3, s4⟩; go_simp; with_reducible rfl)
     refine t2_ 15 95 (bA_ 24 786431) hHeld ?_ (hy := by rintro w' ⟨s0, s1, s2, s3, s4⟩; go_simp; with_reducible rfl)
     refine t2_ 18 98 (bA_ 24 1048575) hHeld ?_ (hy := by rintro w' ⟨s0, s1, s2, s3, s4⟩; go_simp; with_reducible rfl)
     refine p2_ 20 100 (bA_ 24 2097151) ?_
     refine o2_ 21 101 (bA_ 24 4194303) (fun K hK => ?_)
     refine g2_ Tryz.func33 #[va, .agg #[.int .i64 a, .int .i64 xx, .int .i64 i]] ?_
     with_reducible refine (HCALL.out).mono ?_
     rintro _ w9 ⟨v', rfl, hP⟩
     refine ⟨_, rfl, ?_⟩
     obtain ⟨A', c', hv', _, _⟩ := EdgeRow.C hP.1
     obtain ⟨y1, y2, z1, z2, y3, y4, y5, y6, y7, Y8, Y9⟩ := HAFT.out w9 v' hP
     clear hP
     generalize (putP _ _).length = m' at hv'
     subst hv'
     refine hK.out _ _ ⟨y1, y2, z1, z2, y3⟩ (fun hHeld => ?_)
     clear hK K
     refine n2_ 101 ?_
     refine p2_ 22 102 (bA_ 24 8388607) ?_
     refine last_ (i := 23) (N := none) (bA_ 24 16777215) rfl rfl (by kernel_rfl) (by decide) (fun K hK => ?_)
     refine skip_ (w1 := ?_) (by rfl) rfl ?_ ?_
     rotate_left
     ·go_simp
      rfl
     refine hK.out _ _ ?_
     clear hK K
     refine done_ (by kernel_rfl) ?_
     all_goals (try go_wp2_with fail)
     go_roundw
     case measure => simp [intOf]; omega
     case rel => exact ⟨i + 1, by go_num, by omega, Lib.hid (by rw [HNEXT.out]; exact Y9.out), Y8⟩
   ·have HIL : Hid (i = len) := Lib.hid (by omega)
    go_wp2_with fail
    go_ret
    obtain ⟨V, hT⟩ := HTW.out
    rw [HIL.out] at hT
    have hgx : g ≠ xb := by
     obtain ⟨cur, hg⟩ := own_blk (show w5.ownsRow w4.heap.size 3 1 _ n (ints x) from HC5.out.own)
     exact ne_typed hg HXB5.out (by decide)
    have hg5 : g < w5.heap.size := (World.ownsRow.lt (show w5.ownsRow w4.heap.size 3 1 _ n (ints x) from HC5.out.own) g rfl).2
    have hat0 : wr.ownsRow w4.heap.size 3 1 (.slice (some ⟨g, 0, none⟩) n n) n (ints x) := own_only (own_only (show w5.ownsRow w4.heap.size 3 1 _ n (ints x) from HC5.out.own) HO6.out (fun k hk e => by cases hk; exact hgx e)) (Only.of_belowB HBL.out) (fun k hk e => by cases hk; have e' : w5.heap.size ≤ g := e; omega)
    have hxl : x.length = n := OwnI.len (w := wr) (B := w4.heap.size) (g := g) hat0
    have hAT : Kd.C (Kd.int .i64) wr (some ⟨g, 0, none⟩) n x := by
     have h1 : Kd.R (Kd.int .i64) 3 wr w4.heap.size (fun _ => True) (.slice (some ⟨g, 0, none⟩) n n) x := Kd.R_of_own (by rw [hxl]; exact hat0) (fun _ _ => trivial)
     have h2 := (Kd.R_reads' h1).2.2
     rw [hxl] at h2
     exact h2
    have hlen : ∀ b, ∀ l ∈ buildB rank ways n len b, l.length ≤ 100000000 := fun b l hl => by
     obtain ⟨j, hj, rfl⟩ := List.getElem_of_mem hl
     have := buildB_len rank ways n len b j
     rw [List.getD, List.getElem?_eq_getElem hj] at this
     have h3 : (buildB rank ways n len b)[j].length ≤ len := this
     omega
    refine ⟨xb, x, rfl, ⟨⟨A1, c1, .slice A2 len c2, some ⟨g, 0, none⟩, n, .map (some mb), some ⟨u, 0, none⟩, n, some ⟨d, 0, none⟩, n, HXB7.out, Kd.C_below HC4.out HBR.out, hAT, hT.C true (by omega), hT.C false (by omega)⟩, hn, hlen true, hlen false⟩, HC5.out.inv, HB4.out.trans (HBR.out.mono HB4.out.size)⟩
end Go.Proofs.YtfkejflmhidnaaaGreat.PAll
