import Derived.Test.YtfkejflmhidnaaaQPrA
import Derived.Test.YtfkejflmhidnaaaQTlP
import Derived.Test.YtfkejflmhidnaaaQCxR
import Derived.Test.YtfkejflmhidnaaaQGaA
set_option linter.all false
namespace Go.Proofs.Ytfkejflmhidnaaa.PAll
open Go.RowKit Go.Proofs.YtfkejflmhidnaaaW.PrintWords Go.Proofs.YtfkejflmhidnaaaW.PrintLast Go.Proofs.YtfkejflmhidnaaaW.PrintMore
open Hp hiding Good
def climbV (n : Nat) (h : HierP) (v top : Int) (back : Bool) : Int → Option Int := if 0 ≤ v ∧ v < n then climbF n h.rank top (h.side back) v.toNat else fun _ => none
def lowV (n : Nat) (h : HierP) (v top : Int) (back : Bool) : List S39 := rowsP n (climbV n h v top back) (fun u => decide (rd h.rank (u : Int) < top))
def highV (n : Nat) (h : HierP) (v top : Int) (back : Bool) : List S39 := rowsP n (climbV n h v top back) (fun u => decide (top ≤ rd h.rank (u : Int)))
theorem highV_in {n : Nat} {wm : Int} {h : HierP} (hok : HOk n wm h) (hn : n ≤ 900) (v top : Int) (back : Bool) : (highV n h v top back).length ≤ 1000 ∧ ∀ a ∈ highV n h v top back, 0 ≤ a.f1 ∧ a.f1 ≤ 2305843009213693952 := by
  by_cases hv : 0 ≤ v ∧ v < n
  · have e : highV n h v top back = highP n h v.toNat top back := by unfold highV highP climbV; rw [if_pos hv]
    rw [e]
    exact highP_in hok hn v.toNat (by omega) top back
  · have e : highV n h v top back = [] := by unfold highV climbV; rw [if_neg hv]; exact rowsP_none _ _
    rw [e]
    exact ⟨by simp, fun a ha => by simp at ha⟩
set_option maxHeartbeats 1000000 in
theorem within_gen (w : World) (hb n : Nat) (h : HierP) (wm : Int) (H : HierRep w hb n h) (hok : HOk n wm h) (v : Int) (top : Int) (back : Bool) :
    Calls Try.prog 68 #[.pointer (some ⟨hb, 0, none⟩), .int .i64 v, .int .i64 top, .bool back] w fun r w' => ∃ v1 v2, r = .returned (.tuple #[v1, v2]) ∧ Kd.R k39 39 w' w.heap.size (fun _ => True) v1 (lowV n h v top back) ∧ Kd.R k39 39 w' w.heap.size (fun _ => True) v2 (highV n h v top back) ∧ Below w.heap.size w w' := by
  obtain ⟨w0, hw0⟩ : ∃ w0, w.alloc (.cells #[.int .i64 top] 3) = w0 := ⟨_, rfl⟩
  have B0 : Below w.heap.size w w0 := by rw [← hw0]; exact (Below.refl _ _).alloc (Nat.le_refl _) _
  have hs0 : w0.heap.size = w.heap.size + 1 := by rw [← hw0]; simp
  have bt0 : w0.heap[w.heap.size]? = some (.cells #[.int .i64 top] 3 (0, 0)) := by rw [← hw0]; exact blk_new w _
  have HC := Lib.hid (show Calls Try.prog 89 #[.pointer (some ⟨hb, 0, none⟩), .int .i64 v, .int .i64 top, .func (.func (if back = true then 88 else 87)) #[] #[]] w0 fun r w' => ∃ mb m, r = .returned (.map (some mb)) ∧ MapI w' mb m (climbV n h v top back) ∧ w0.heap.size ≤ mb ∧ Below w0.heap.size w0 w' from by
    by_cases hv : 0 ≤ v ∧ v < n
    · obtain ⟨u, rfl⟩ : ∃ u : Nat, v = u := ⟨v.toNat, by omega⟩
      have e : climbV n h u top back = climbF n h.rank top (h.side back) u := by unfold climbV; rw [if_pos hv]; rfl
      rw [e]
      cases back with
      | false => exact climb_up w0 hb n h wm (H.below B0) hok u (by omega) top
      | true => exact climb_down w0 hb n h wm (H.below B0) hok u (by omega) top
    · refine (climb_no w0 hb n h (H.below B0) v (by omega) top _).mono ?_
      rintro e w' ⟨rfl, rfl⟩
      exact ⟨_, 0, rfl, by unfold climbV; rw [if_neg hv]; exact MapI.made w0, Nat.le_refl _, (Below.refl _ _).alloc (Nat.le_refl _) _⟩)
  have HB0 := Lib.hid B0
  have HH := Lib.hid H
  have HS0 := Lib.hid hs0
  have HBT := Lib.hid bt0
  have HW0 := Lib.hid hw0
  unfold lowV highV
  clear H hok B0 hs0 bt0 hw0
  cases back with
  | false =>
    have c0 := (blk_cell HBT.out 0).trans rfl
    go_enter Try.func68, Try.ntmps68
    go_wp2_with fail
    rw [HW0.out]
    refine HC.out.mono ?_
    rintro e w1 ⟨mb, m, rfl, hM, hmb, hB1⟩
    have hlt0 : w.heap.size < w0.heap.size := by have := HS0.out; omega
    have c1 : w1.cell? ⟨w.heap.size, 0, none⟩ = some (.int .i64 top) := (hB1.cell (p := ⟨w.heap.size, 0, none⟩) hlt0).trans c0
    have hw1 : Below w.heap.size w w1 := HB0.out.trans (hB1.mono (by have := HS0.out; omega))
    have HM := Lib.hid hM
    have HW1 := Lib.hid hw1
    clear hM hmb hB1 c0 HC
    go_wp2_with fail
    refine (rows_lss w1 hb n mb m h _ (HH.out.below HW1.out) HM.out top w.heap.size c1).mono ?_
    rintro e w2 ⟨v1, rfl, hR2, hB2⟩
    have hlt1 : w.heap.size < w1.heap.size := World.block_lt_of_cell? w1 _ c1
    have c2 : w2.cell? ⟨w.heap.size, 0, none⟩ = some (.int .i64 top) := (hB2.cell (p := ⟨w.heap.size, 0, none⟩) hlt1).trans c1
    have HM2 := Lib.hid (HM.out.only (Only.of_below hB2 (fun _ => False)) (fun f => f))
    have HW2 := Lib.hid (HW1.out.trans (hB2.mono HW1.out.size))
    have HR2 := Lib.hid (Kd.R_lower hR2 HW1.out.size)
    clear hR2 hB2 c1 HM
    go_wp2_with fail
    refine (rows_geq w2 hb n mb m h _ (HH.out.below HW2.out) HM2.out top w.heap.size c2).mono ?_
    rintro e w3 ⟨v2, rfl, hR3, hB3⟩
    have HR3 := Lib.hid (Kd.R_lower hR3 HW2.out.size)
    have HR4 := Lib.hid (Kd.R_below HR2.out hB3)
    have HW3 := Lib.hid (HW2.out.trans (hB3.mono HW2.out.size))
    clear hR3 hB3
    go_wp2_with fail
    go_ret2
    exact ⟨v1, v2, rfl, HR4.out, HR3.out, HW3.out⟩
  | true =>
    have c0 := (blk_cell HBT.out 0).trans rfl
    go_enter Try.func68, Try.ntmps68
    go_wp2_with fail
    rw [HW0.out]
    refine HC.out.mono ?_
    rintro e w1 ⟨mb, m, rfl, hM, hmb, hB1⟩
    have hlt0 : w.heap.size < w0.heap.size := by have := HS0.out; omega
    have c1 : w1.cell? ⟨w.heap.size, 0, none⟩ = some (.int .i64 top) := (hB1.cell (p := ⟨w.heap.size, 0, none⟩) hlt0).trans c0
    have hw1 : Below w.heap.size w w1 := HB0.out.trans (hB1.mono (by have := HS0.out; omega))
    have HM := Lib.hid hM
    have HW1 := Lib.hid hw1
    clear hM hmb hB1 c0 HC
    go_wp2_with fail
    refine (rows_lss w1 hb n mb m h _ (HH.out.below HW1.out) HM.out top w.heap.size c1).mono ?_
    rintro e w2 ⟨v1, rfl, hR2, hB2⟩
    have hlt1 : w.heap.size < w1.heap.size := World.block_lt_of_cell? w1 _ c1
    have c2 : w2.cell? ⟨w.heap.size, 0, none⟩ = some (.int .i64 top) := (hB2.cell (p := ⟨w.heap.size, 0, none⟩) hlt1).trans c1
    have HM2 := Lib.hid (HM.out.only (Only.of_below hB2 (fun _ => False)) (fun f => f))
    have HW2 := Lib.hid (HW1.out.trans (hB2.mono HW1.out.size))
    have HR2 := Lib.hid (Kd.R_lower hR2 HW1.out.size)
    clear hR2 hB2 c1 HM
    go_wp2_with fail
    refine (rows_geq w2 hb n mb m h _ (HH.out.below HW2.out) HM2.out top w.heap.size c2).mono ?_
    rintro e w3 ⟨v2, rfl, hR3, hB3⟩
    have HR3 := Lib.hid (Kd.R_lower hR3 HW2.out.size)
    have HR4 := Lib.hid (Kd.R_below HR2.out hB3)
    have HW3 := Lib.hid (HW2.out.trans (hB3.mono HW2.out.size))
    clear hR3 hB3
    go_wp2_with fail
    go_ret2
    exact ⟨v1, v2, rfl, HR4.out, HR3.out, HW3.out⟩
theorem awithin_gen (w : World) (hb n : Nat) (h : HierP) (wm : Int) (H : HierRep w hb n h) (hok : HOk n wm h) (v : Int) (k : Int) (back : Bool) :
    Calls Try.prog 35 #[.pointer (some ⟨hb, 0, none⟩), .int .i64 v, .int .i64 k, .bool back] w fun r w' => ∃ v1 v2, r = .returned (.tuple #[v1, v2]) ∧ Kd.R k39 39 w' w.heap.size (fun _ => True) v1 (lowV n h v (lowAt n k) back) ∧ Kd.R k39 39 w' w.heap.size (fun _ => True) v2 (highV n h v (lowAt n k) back) ∧ Below w.heap.size w w' := by
  have HN := Lib.hid (n_walk w hb n h H)
  have HK := Lib.hid (clip_walk w hb n h H k)
  have HW := Lib.hid (within_gen w hb n h wm H hok v (lowAt n k) back)
  have hc := clipP_in n k
  have hn := H.small
  have e : lowAt n k = (n : Int) - clipP n k := rfl
  rw [e] at HW ⊢
  clear H hok e
  generalize clipP n k = c at *
  go_enter Try.func35, Try.ntmps35
  go_wp2_with (first | (go_at_call 36; refine HN.out.mono ?_; rintro e w' ⟨rfl, rfl⟩) | (go_at_call 42; refine HK.out.mono ?_; rintro e w' ⟨rfl, rfl⟩) | (go_at_call 68; refine HW.out.mono ?_; rintro e w1 ⟨v1, v2, rfl, hR⟩; have HR := Lib.hid hR; clear hR))
  go_ret2
  exact ⟨v1, v2, rfl, HR.out⟩
theorem raw_gen (w : World) (hb n : Nat) (h : HierP) (wm : Int) (H : HierRep w hb n h) (hok : HOk n wm h) (v : Int) (k : Int) (back : Bool) :
    Calls Try.prog 13 #[.pointer (some ⟨hb, 0, none⟩), .int .i64 v, .int .i64 k, .bool back] w fun r w' => ∃ v2, r = .returned v2 ∧ Kd.R k39 39 w' w.heap.size (fun _ => True) v2 (highV n h v (lowAt n k) back) ∧ Below w.heap.size w w' := by
  have HW := Lib.hid (awithin_gen w hb n h wm H hok v k back)
  clear H hok
  go_enter Try.func13, Try.ntmps13
  go_wp2_with (first | (go_at_call 35; refine HW.out.mono ?_; rintro e w1 ⟨v1, v2, rfl, hR⟩; have HR := Lib.hid hR; clear hR))
  go_ret
  exact ⟨v2, rfl, HR.out.2⟩
set_option maxRecDepth 100000 in
set_option maxHeartbeats 2000000 in
theorem sub_gen (w : World) (hb n : Nat) (h : HierP) (wm : Int) (H : HierRep w hb n h) (hok : HOk n wm h) (v : Int) (k : Int) (back : Bool) :
    Calls Try.prog 11 #[.pointer (some ⟨hb, 0, none⟩), .int .i64 v, .int .i64 k, .bool back] w fun r w' => ∃ v2, r = .returned v2 ∧ Kd.R (Kd.int .i64) 3 w' w.heap.size (fun _ => True) v2 ((lowV n h v (lowAt n k) back).map (·.f0)) ∧ Below w.heap.size w w' := by
  have HW := Lib.hid (awithin_gen w hb n h wm H hok v k back)
  have hl : (lowV n h v (lowAt n k) back).length ≤ 900 := Nat.le_trans (rowsP_len _ _ _) H.small
  clear H hok
  generalize lowV n h v (lowAt n k) back = l at *
  go_enter Try.func11, Try.ntmps11
  go_wp2_with fail
  refine HW.out.mono ?_
  rintro e w1 ⟨v1, v2, rfl, hR1, _, hB1⟩
  obtain ⟨A, c, rfl, hlc, _⟩ := Kd.R_reads hR1
  obtain ⟨len, hlen⟩ : ∃ len, l.length = len := ⟨_, rfl⟩
  have HR1 := Lib.hid hR1
  have HB1 := Lib.hid hB1
  have HLEN := Lib.hid hlen
  rw [hlen] at hlc hl ⊢
  clear hR1 hB1 HW hlen
  go_wp2_with fail
  go_loopw [11, 24] (fun v11 v24 wr => ∃ i : Nat, v24 = .int .i64 i ∧ i ≤ len ∧ Hid (Kd.R (Kd.int .i64) 3 wr w1.heap.size (fun _ => True) v11 ((l.take i).map (·.f0))) ∧ Hid (Below w1.heap.size w1 wr)) (fun _ v24 _ => len - (intOf v24).toNat)
  case atStart => exact ⟨0, rfl, by omega, Lib.hid (Kd.R_nil _ _ _ _ _), Lib.hid (Below.refl _ _)⟩
  case round =>
    obtain ⟨i, rfl, hi, HR, HB⟩ := hrel
    by_cases hlt : i < len
    · obtain ⟨ad, rfl, r0, r1⟩ := at39 (Kd.R_below HR1.out HB.out) i (by have := HLEN.out; omega)
      have HTK : Hid ((l.take (i + 1)).map (·.f0) = (l.take i).map (·.f0) ++ [(rd_T39 l (i : Int)).f0]) := Lib.hid (by
        have hi' : i < l.length := by have := HLEN.out; omega
        rw [List.take_succ_eq_append_getElem hi', List.map_append]
        have : rd_T39 l (i : Int) = l[i] := by simp [rd_T39, List.getD, hi']
        rw [this]; rfl)
      have hlen : ((l.take i).map (·.f0)).length ≤ i := by simp; omega
      have hs1 : w.heap.size ≤ w1.heap.size := HB1.out.size
      have hs2 : w1.heap.size ≤ wr.heap.size := HB.out.size
      generalize rd_T39 l (i : Int) = e at *
      obtain ⟨a, b⟩ := e
      simp only at r0 r1 HTK
      have hi0 : (0 : Int) ≤ (i : Int) := Int.natCast_nonneg _
      have hi1 : (i : Int) < (len : Int) := by omega
      go_wp2_with (first | (at_builtin; refine Kd.R_append (Kd.int .i64) (w0 := w1) (W := wr.alloc (.cells #[.int .i64 a, .int .i64 b] 39)) w1.heap.size rfl (.tmp 28) (.tmp 31) 28 3 (.int .i64 0) 8 rfl Try.underlying28 info3 rfl (by decide) (by omega) _ ((l.take i).map (·.f0)) a [.int .i64 a] (fun _ => True) (fun _ => False) rfl (by rw [World.size_alloc]; rfl) rfl (fun _ h => h.elim) (fun _ _ => trivial) (Kd.R_alloc HR.out _) (HB.out.alloc hs2 _) (by simp; omega) (by omega) ?_; intro v1 w2 hR2 hB2 hg2 _; have HR2 := Lib.hid hR2; have HB2 := Lib.hid hB2; clear hR2 hB2 hg2))
      go_roundw
      case measure => simp [intOf]; omega
      case rel => exact ⟨i + 1, by go_num, by omega, Lib.hid (by rw [HTK.out]; exact HR2.out), HB2⟩
    · have HIL : Hid (l.take i = l) := Lib.hid (List.take_of_length_le (by have := HLEN.out; omega))
      have hil : len ≤ i := by omega
      go_wp2_with fail
      go_ret
      rw [HIL.out] at HR
      exact ⟨_, rfl, Kd.R_lower HR.out HB1.out.size, HB1.out.trans (HB.out.mono HB1.out.size)⟩
theorem of_gen (w : World) (hb n : Nat) (h : HierP) (wm : Int) (H : HierRep w hb n h) (hok : HOk n wm h) (v : Int) (k : Int) (back : Bool) :
    Calls Try.prog 19 #[.pointer (some ⟨hb, 0, none⟩), .int .i64 v, .int .i64 k, .bool back] w fun r w' => ∃ vr, r = .returned vr ∧ Kd.R k39 39 w' w.heap.size (fun _ => True) vr (pruneP n h back (highV n h v (lowAt n k) back)) ∧ Below w.heap.size w w' := by
  have HRW := Lib.hid (raw_gen w hb n h wm H hok v k back)
  obtain ⟨hl, hD⟩ := highV_in hok H.small v (lowAt n k) back
  have HH := Lib.hid H
  have HOK := Lib.hid hok
  have HD := Lib.hid hD
  have HL := Lib.hid hl
  clear H hok hl hD
  generalize highV n h v (lowAt n k) back = l at *
  go_enter Try.func19, Try.ntmps19
  go_wp2_with fail
  refine HRW.out.mono ?_
  rintro e w2 ⟨v2, rfl, hR2, hB2⟩
  have HP := Lib.hid (prune_walk w2 hb n h _ (HH.out.below hB2) HOK.out back w.heap.size v2 l hR2 HL.out HD.out)
  obtain ⟨A2, c2, hv2, _, _⟩ := Kd.R_reads hR2
  subst hv2
  have HB2 := Lib.hid hB2
  clear hR2 hB2 HRW HH HD HOK
  generalize l.length = m at HP ⊢
  go_wp2_with fail
  refine HP.out.mono ?_
  rintro e w3 ⟨v3, rfl, hR3, hB3⟩
  have HR3 := Lib.hid (Kd.R_lower hR3 HB2.out.size)
  have HB3 := Lib.hid (HB2.out.trans (hB3.mono HB2.out.size))
  clear hR3 hB3 HP
  go_wp2_with fail
  go_ret
  exact ⟨v3, rfl, HR3.out, HB3.out⟩
theorem asc_ext : ∀ a b : List Int, a.Pairwise (fun p q => p < q) → b.Pairwise (fun p q => p < q) → (∀ x, x ∈ a ↔ x ∈ b) → a = b
  | [], [], _, _, _ => rfl
  | [], y :: b, _, _, h => by have := (h y).2 (by simp); simp at this
  | x :: a, [], _, _, h => by have := (h x).1 (by simp); simp at this
  | x :: a, y :: b, ha, hb, h => by
    rw [List.pairwise_cons] at ha hb
    have e : x = y := by
      rcases List.mem_cons.1 ((h x).1 (by simp)) with e | h1
      · exact e
      · rcases List.mem_cons.1 ((h y).2 (by simp)) with e | h2
        · exact e.symm
        · have := hb.1 _ h1; have := ha.1 _ h2; omega
    subst e
    rw [asc_ext a b ha.2 hb.2 (fun z => ⟨fun hz => by
      rcases List.mem_cons.1 ((h z).1 (by simp [hz])) with e | h1
      · have := ha.1 _ hz; omega
      · exact h1, fun hz => by
      rcases List.mem_cons.1 ((h z).2 (by simp [hz])) with e | h1
      · have := hb.1 _ hz; omega
      · exact h1⟩)]
theorem great_eq {n : Nat} {rank : List Int} {ways : List S66} (V : VH n rank ways) (x : List Int) (hx : ∀ u : Nat, u < n → rd x (rd rank u) = u) (m : Nat) (hm : m ≤ n) :
    sortP (greatL n x m) = intsOf (rowsP n (fun _ => some 0) (fun u => decide ((n : Int) - m ≤ rd rank (u : Int)))) := by
  obtain ⟨h1, h2⟩ := great_nodup V.rin V.rinj hx m hm
  have hperm := sortP_perm (greatL n x m)
  refine asc_ext _ _ (sorted_lt (sortP_pair _) (hperm.nodup_iff.2 h1)) ?_ (fun z => ?_)
  · unfold intsOf
    rw [List.pairwise_map]
    exact rowsP_pair _ _ n
  · rw [hperm.mem_iff]
    unfold intsOf
    rw [List.mem_map]
    constructor
    · intro hz
      obtain ⟨u, hu, rfl, hr⟩ := h2 z hz
      exact ⟨_, rowsP_has hu rfl (by simpa using hr), rfl⟩
    · rintro ⟨y, hy, rfl⟩
      obtain ⟨u, hu, e0, _, hp⟩ := rowsP_mem hy
      have hr := V.rin u hu
      have hp' : (n : Int) - m ≤ rd rank (u : Int) := by simpa using hp
      rw [e0]
      unfold greatL
      rw [List.mem_map]
      refine ⟨n - 1 - (rd rank (u : Int)).toNat, List.mem_range.2 (by omega), ?_⟩
      rw [show ((n - 1 - (n - 1 - (rd rank (u : Int)).toNat) : Nat) : Int) = rd rank (u : Int) by omega]
      exact hx u hu
def newH (n : Nat) (rank x : List Int) (ways : List S66) : HierP := ⟨rank, x, buildB rank ways n ways.length true, buildB rank ways n ways.length false⟩
theorem climbIs_new (w : World) (n : Nat) (rank : List Int) (ways : List S66) (V : VH n rank ways) (rA wA : Option Addr) (rc wc : Nat) (hr : Kd.C (Kd.int .i64) w rA n rank) (hw : Kd.C k66 w wA ways.length ways) (x : List Int) :
    ClimbIs w n (.agg #[.slice rA n rc, .slice wA ways.length wc]) (fun v top back => climbV n (newH n rank x ways) v top back) := fun W g v top back => by
  refine (rclimb_walk W n rank ways V rA wA rc wc (Kd.C_below hr g) (Kd.C_below hw g) v top back).mono ?_
  rintro r w' ⟨d, gb, rfl, hR, hdl, hno, hyes, gB⟩
  refine ⟨d, gb, rfl, hR, hdl, fun z hz => ?_, gB⟩
  show ofRow d (z : Int) = climbV n (newH n rank x ways) v top back (z : Int)
  unfold climbV
  by_cases hv : 0 ≤ v ∧ v < n
  · rw [if_pos hv]
    obtain ⟨s, rfl⟩ : ∃ s : Nat, v = s := ⟨v.toNat, by omega⟩
    exact cl_eq V (by omega) (hyes s rfl (by omega)) x z hz
  · rw [if_neg hv]
    have e := hno (by omega)
    subst e
    unfold ofRow
    rw [rd_get (by simpa using hz)]
    simp
theorem mrow_new {n : Nat} {rank : List Int} {ways : List S66} (V : VH n rank ways) (x : List Int) (v : Int) (back : Bool) : MRow (aboveP n (newH n rank x ways) v back) := fun y hy => by
  have := aboveP_mem (hok_new V x) V.small hy
  exact ⟨this.1, this.2.2.1, this.2.2.2⟩
section
variable {w : World} {n : Nat} {rank : List Int} {ways : List S66} (V : VH n rank ways) {rA wA : Option Addr} {rc wc : Nat} (hr : Kd.C (Kd.int .i64) w rA n rank) (hw : Kd.C k66 w wA ways.length ways) (x : List Int)
include V hr hw
theorem aboveIs_new : AboveIs w (.agg #[.slice rA n rc, .slice wA ways.length wc]) (fun v back => aboveP n (newH n rank x ways) v back) := fun W g v back => by
  have hc := climbIs_new w n rank ways V rA wA rc wc hr hw x
  refine (above11_walk W n ways.length V.small rank rA wA rc wc V.rl (Kd.C_below hr g) _ (hc.later g) v back).mono ?_
  rintro r w' ⟨vr, rfl, hR, gB⟩
  refine ⟨vr, rfl, ?_, gB⟩
  have e : rowsP n (climbV n (newH n rank x ways) v n back) (fun u => decide (0 ≤ rd rank (u : Int)) && decide (rd rank (u : Int) < n)) = aboveP n (newH n rank x ways) v back := by
    unfold aboveP climbV
    by_cases hv : 0 ≤ v ∧ v < n
    · rw [if_pos hv, if_pos hv]
      exact rowsP_congr (fun _ _ => rfl) (fun u hu => by have := V.rin u hu; simp; omega)
    · rw [if_neg hv, if_neg hv]
      exact rowsP_none _ _
  rw [e] at hR
  exact hR
theorem farIs_new : FarIs w (.agg #[.slice rA n rc, .slice wA ways.length wc]) (farP n (newH n rank x ways)) := fun W g s t => by
  have hpair : ∀ (v : Int) (back : Bool), (aboveP n (newH n rank x ways) v back).Pairwise (fun p q => p.f0 < q.f0) := fun v back => by
    unfold aboveP
    split
    · exact rowsP_pair _ _ _
    · exact List.Pairwise.nil
  refine far12_walk W n ways.length rA wA rc wc (aboveP n (newH n rank x ways) s false) (aboveP n (newH n rank x ways) t true) s t _ (fun x' y h => meet_eq (hpair _ _) (hpair _ _) (mrow_new V x _ _) (mrow_new V x _ _) h) (fun W' g' => ?_)
  have ga := g.trans (g'.mono g.size)
  exact where12_walk W' n ways.length rA wA rc wc (fun v back => aboveP n (newH n rank x ways) v back) (fun W'' g'' => aboveIs_new V hr hw x W'' (ga.trans (g''.mono ga.size))) (fun v b => Nat.le_trans (aboveP_len _ _ _ _) V.small) (fun v b => mrow_new V x v b) s t
theorem rawR_new (v k : Int) (back : Bool) : Calls Try.prog 18 #[.agg #[.slice rA n rc, .slice wA ways.length wc], .int .i64 v, .int .i64 k, .bool back] w fun r w' => ∃ vr, r = .returned vr ∧ Kd.R k39 39 w' w.heap.size (fun _ => True) vr (highV n (newH n rank x ways) v (lowAt n k) back) ∧ Below w.heap.size w w' := by
  refine (raw14_walk w n ways.length V.small rank rA wA rc wc V.rl hr _ (climbIs_new w n rank ways V rA wA rc wc hr hw x) v k back).mono ?_
  rintro r w' ⟨vr, rfl, hR, gB⟩
  refine ⟨vr, rfl, ?_, gB⟩
  have e : rowsP n (climbV n (newH n rank x ways) v (lowAt n k) back) (fun u => decide (lowAt n k ≤ rd rank (u : Int)) && decide (rd rank (u : Int) < n)) = highV n (newH n rank x ways) v (lowAt n k) back :=
    rowsP_congr (fun _ _ => rfl) (fun u hu => by
      have := (V.rin u hu).2
      show (decide (lowAt n k ≤ rd rank (u : Int)) && decide (rd rank (u : Int) < n)) = decide (lowAt n k ≤ rd rank (u : Int))
      rw [show decide (rd rank (u : Int) < n) = true by simpa using this, Bool.and_true])
  rw [← e]
  exact hR
theorem subR_new (v k : Int) (back : Bool) : Calls Try.prog 22 #[.agg #[.slice rA n rc, .slice wA ways.length wc], .int .i64 v, .int .i64 k, .bool back] w fun r w' => ∃ vr, r = .returned vr ∧ Kd.R (Kd.int .i64) 3 w' w.heap.size (fun _ => True) vr ((lowV n (newH n rank x ways) v (lowAt n k) back).map (·.f0)) ∧ Below w.heap.size w w' :=
  sub14_walk w n ways.length V.small rank rA wA rc wc V.rl hr _ (climbIs_new w n rank ways V rA wA rc wc hr hw x) v k back
theorem pruneR_new (back : Bool) (l : List S39) (lA : Option Addr) (lc : Nat) (hl : Kd.C k39 w lA l.length l) (hll : l.length ≤ 1000) (hD : ∀ a ∈ l, 0 ≤ a.f1 ∧ a.f1 ≤ 2305843009213693952) :
    Calls Try.prog 41 #[.agg #[.slice rA n rc, .slice wA ways.length wc], .slice lA l.length lc, .bool back] w fun r w' => ∃ vr, r = .returned vr ∧ Kd.R k39 39 w' w.heap.size (fun _ => True) vr (pruneP n (newH n rank x ways) back l) ∧ Below w.heap.size w w' :=
  prune14_walk w n ways.length rA wA rc wc (farP n (newH n rank x ways)) (farIs_new V hr hw x) (fun s t => far_bound (hok_new V x) V.small s t) back l lA lc hl hll hD
end
theorem ofR_new {w : World} {n : Nat} {rank : List Int} {ways : List S66} (V : VH n rank ways) {rA wA : Option Addr} {rc wc : Nat} (hr : Kd.C (Kd.int .i64) w rA n rank) (hw : Kd.C k66 w wA ways.length ways) (x : List Int) (v k : Int) (back : Bool) :
    Calls Try.prog 20 #[.agg #[.slice rA n rc, .slice wA ways.length wc], .int .i64 v, .int .i64 k, .bool back] w fun r w' => ∃ vr, r = .returned vr ∧ Kd.R k39 39 w' w.heap.size (fun _ => True) vr (pruneP n (newH n rank x ways) back (highV n (newH n rank x ways) v (lowAt n k) back)) ∧ Below w.heap.size w w' := by
  obtain ⟨hl, hD⟩ := highV_in (hok_new V x) V.small v (lowAt n k) back
  exact of14_walk w n ways.length rA wA rc wc back v k (highV n (newH n rank x ways) v (lowAt n k) back) _ hl (fun W g => rawR_new V (Kd.C_below hr g) (Kd.C_below hw g) x v k back) (fun W g lA lc h => pruneR_new V (Kd.C_below hr g) (Kd.C_below hw g) x back _ lA lc h hl hD)
end Go.Proofs.Ytfkejflmhidnaaa.PAll
