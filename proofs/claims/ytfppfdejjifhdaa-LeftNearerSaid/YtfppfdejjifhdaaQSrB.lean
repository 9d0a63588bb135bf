import Derived.Test.YtfppfdejjifhdaaQSrA
namespace Go.Proofs.Ytfppfdejjifhdaa.PAll
open Go.RowKit Go.Proofs.YtfppfdejjifhdaaW.PrintWords Go.Proofs.YtfppfdejjifhdaaW.PrintLast Go.Proofs.YtfppfdejjifhdaaW.PrintMore
open Hp hiding Good
set_option linter.unusedVariables false
set_option linter.unusedSimpArgs false

/-! ### graph.sorted: the counts -/
def cn1 (e : Int → Int) (l : List Int) (i : Nat) (j : Nat) : Int := if j = 0 then 0 else (cntE e (l.take i) (j - 1) : Int)
def cn2 (e : Int → Int) (l : List Int) (v : Nat) (j : Nat) : Int := if j ≤ v then (cntB e l j : Int) else (cntE e l (j - 1) : Int)
def cn3 (e : Int → Int) (l : List Int) (i : Nat) (j : Nat) : Int := ((cntB e l j + cntE e (l.take i) j : Nat) : Int)
theorem cntE_len (e : Int → Int) (l : List Int) (v : Nat) : cntE e l v ≤ l.length := by unfold cntE; exact List.countP_le_length
theorem cn1_step (e : Int → Int) (l : List Int) (i : Nat) (hi : i < l.length) (v : Nat) (hv : e (rd l (i : Int)) = v) (m : Nat) : (rowF m (cn1 e l i)).set (v + 1) (cn1 e l i (v + 1) + 1) = rowF m (cn1 e l (i + 1)) := by
  rw [rowF_set]
  refine rowF_ext (fun j hj => ?_)
  rw [rd_getL hi] at hv
  unfold cn1
  rw [cntE_take e l i hi (j - 1)]
  by_cases h : j = v + 1
  · subst h
    simp only [if_true, Nat.add_sub_cancel]
    rw [if_neg (by omega), if_neg (by omega), if_pos hv]
    omega
  · rw [if_neg h]
    by_cases h0 : j = 0
    · rw [if_pos h0, if_pos h0]
    · rw [if_neg h0, if_neg h0, if_neg (by rw [hv]; omega)]
      rfl
theorem cn1_full (e : Int → Int) (l : List Int) (h : ∀ k ∈ l, 0 ≤ e k) (m : Nat) : rowF m (cn1 e l l.length) = rowF m (cn2 e l 0) := rowF_ext (fun j _ => by
  unfold cn1 cn2
  rw [List.take_length]
  by_cases h0 : j = 0
  · subst h0; rw [if_pos rfl, if_pos (by omega), cntB_zero e l h]; rfl
  · rw [if_neg h0, if_neg (by omega)])
theorem cn2_step (e : Int → Int) (l : List Int) (v m : Nat) : (rowF m (cn2 e l v)).set (v + 1) (cn2 e l v (v + 1) + cn2 e l v v) = rowF m (cn2 e l (v + 1)) := by
  rw [rowF_set]
  refine rowF_ext (fun j _ => ?_)
  unfold cn2
  by_cases h : j = v + 1
  · subst h
    rw [if_pos rfl, if_neg (by omega), if_pos (by omega), if_pos (by omega), cntB_succ]
    simp only [Nat.add_sub_cancel]
    omega
  · rw [if_neg h]
    by_cases h1 : j ≤ v
    · rw [if_pos h1, if_pos (by omega)]
    · rw [if_neg h1, if_neg (by omega)]
theorem cn2_full (e : Int → Int) (l : List Int) (n : Nat) : rowF (n + 1) (cn2 e l n) = rowF (n + 1) (cn3 e l 0) := rowF_ext (fun j hj => by
  unfold cn2 cn3
  rw [if_pos (by omega)]
  simp [cntE])
theorem cn3_step (e : Int → Int) (l : List Int) (i : Nat) (hi : i < l.length) (v : Nat) (hv : e (rd l (i : Int)) = v) (m : Nat) : (rowF m (cn3 e l i)).set v (cn3 e l i v + 1) = rowF m (cn3 e l (i + 1)) := by
  rw [rowF_set]
  refine rowF_ext (fun j hj => ?_)
  rw [rd_getL hi] at hv
  unfold cn3
  rw [cntE_take e l i hi j]
  by_cases h : j = v
  · subst h
    rw [if_pos rfl, if_pos hv]
    omega
  · rw [if_neg h, if_neg (by rw [hv]; omega)]
    rfl

set_option maxRecDepth 100000 in
set_option maxHeartbeats 8000000 in
/-- graph.sorted, by where each begins -/
theorem sortedF_walk (w : World) (mb n : Nat) (A : List S42) (HM0 : MB w mb n A) (hn : n ≤ 900) (l : List Int) (lA : Option Addr) (lc : Nat) (hlc : l.length ≤ lc) (hl : l.length ≤ 1000) (hC : Kd.C (Kd.int .i64) w lA l.length l) (hla : ∀ k ∈ l, 0 ≤ k ∧ k < A.length) (he : ∀ k ∈ l, 0 ≤ frA A k ∧ frA A k < n) :
    Calls Try.prog 23 #[.int .i64 n, .slice lA l.length lc, .func (.func 19) #[] #[.pointer (some ⟨mb, 0, none⟩)]] w fun r w' => ∃ g out, r = .returned (.slice (some ⟨g, 0, none⟩) l.length l.length) ∧ OwnI w' w.heap.size g l.length out ∧ SoI (frA A) l l.length out ∧ Below w.heap.size w w' := by
  obtain ⟨i0, hi0, hz0, hz1, hz2⟩ := info_parts info3'
  have HM := Lib.hid HM0
  have HC := Lib.hid hC
  have HLA : Hid (∀ i : Nat, i < l.length → rd l (i : Int) ∈ l) := Lib.hid (fun i hi => by rw [rd_getL hi]; exact List.getElem_mem _)
  have HA := Lib.hid hla
  have HE := Lib.hid he
  have HE0 : Hid (∀ k ∈ l, 0 ≤ frA A k) := Lib.hid (fun k hk => (he k hk).1)
  have HE1 : Hid (∀ k ∈ l, frA A k < n) := Lib.hid (fun k hk => (he k hk).2)
  obtain ⟨base, hbase⟩ : ∃ base, w.heap.size = base := ⟨_, rfl⟩
  have HBS := Lib.hid hbase
  have HEND := Lib.hid (fun (W : World) (g : Below base w W) (k : Int) (h : k ∈ l) => from_walk W mb n A (HM0.below (by rw [hbase]; exact g)) k (hla k h).1 (hla k h).2)
  have HCB : Hid (∀ W : World, Below base w W → Kd.C (Kd.int .i64) W lA l.length l) := Lib.hid (fun W g => Kd.C_below hC (by rw [hbase]; exact g))
  have hw : IntKind.i64.wrap ((n : Int) + 1) = (n : Int) + 1 := i64w (by omega) (by omega) (by omega)
  obtain ⟨e, hE⟩ : ∃ e, frA A = e := ⟨_, rfl⟩
  simp only [hE] at HE HE0 HE1 HEND ⊢
  obtain ⟨m, hm⟩ : ∃ m, l.length = m := ⟨_, rfl⟩
  have HLEN := Lib.hid hm
  rw [hm] at HCB HLA hlc hl ⊢
  rw [hbase]
  clear hC hla he HM0 hm hE HM HC hbase
  go_enter Try.func23, Try.ntmps23
  go_wp2_with (first | (at_make; refine wpList_make_full _ (by rfl) _ _ _ (by rfl) w.heap.size 3 i0 (.int .i64 0) 1 Try.underlying44 hi0 hz0 hz1 .i64 .i64 _ _ (n + 1) (by rfl) (by rfl) rfl rfl (by rw [hz2]; omega) (by simp only [maxLen]; omega) (Nat.le_refl _) ?_; intro w1 hown hgrow; have HO1 := Lib.hid hown; have HG1 := Lib.hid hgrow; clear hown hgrow))
  have HW1 : Hid (OwnI w1 base base (n + 1) (rowF (n + 1) (cn1 e l 0))) := Lib.hid (by
    have e0 : rowF (n + 1) (cn1 e l 0) = List.replicate (n + 1) 0 := by
      rw [rowF_zero]
      exact rowF_ext (fun j _ => by unfold cn1; simp [cntE])
    unfold OwnI
    rw [e0, ints_zero, ← HBS.out]
    simpa [Value.cells] using HO1.out)
  have HB1 : Hid (Below base w w1) := Lib.hid (by
    rw [← HBS.out]
    exact (Below.refl w.heap.size w).grown HG1.out (Nat.le_refl _) (fun k hk => by cases hk))
  clear HO1 HG1
  rw [HBS.out]
  go_loopw [19] (fun v19 wr => ∃ i : Nat, v19 = .int .i64 i ∧ i ≤ m ∧ Hid (OwnI wr base base (n + 1) (rowF (n + 1) (cn1 e l i))) ∧ Hid (Below base w wr)) (fun v19 _ => m - (intOf v19).toNat)
  case atStart => exact ⟨0, rfl, by omega, HW1, HB1⟩
  case round =>
    obtain ⟨i, rfl, hi, HO, HB⟩ := hrel
    clear HW1 HB1
    by_cases hlt : i < m
    · have HK := Lib.hid (HLA.out i hlt)
      obtain ⟨v, hv⟩ := Int.eq_ofNat_of_zero_le (HE0.out _ HK.out)
      have hvn : v < n := by have := HE1.out _ HK.out; omega
      have HCALL := Lib.hid (HEND.out wr HB.out _ HK.out)
      have HST := Lib.hid (cn1_step e l i (by have := HLEN.out; omega) v hv (n + 1))
      rw [hv] at HCALL
      obtain ⟨ad, hA, r0⟩ := Kd.at_int (HCB.out wr HB.out) (i : Int) (by omega) (by omega)
      rw [Int.toNat_natCast] at r0
      obtain ⟨c0, f0, l0⟩ := HO.out.facts (v + 1) (by omega)
      rw [rd_rowF _ (by omega)] at c0
      have hcb : 0 ≤ cn1 e l i (v + 1) ∧ cn1 e l i (v + 1) ≤ 1000 := by
        unfold cn1
        rw [if_neg (by omega)]
        have h1 := cntE_len e (l.take i) (v + 1 - 1)
        rw [List.length_take] at h1
        omega
      generalize cn1 e l i (v + 1) = c at *
      obtain ⟨hc0, hc1⟩ := hcb
      have hwv : IntKind.i64.wrap ((v : Int) + 1) = (v : Int) + 1 := i64w (by omega) (by omega) (by omega)
      have hwc : IntKind.i64.wrap (c + 1) = c + 1 := i64w (by omega) (by omega) (by omega)
      have hi0' : (0 : Int) ≤ (i : Int) := Int.natCast_nonneg _
      have hi1 : (i : Int) < (m : Int) := by omega
      generalize rd l (i : Int) = k at *
      subst hA
      clear hv
      go_wp2_with (first | (go_at_call 19; refine HCALL.out.mono ?_; rintro e w' ⟨rfl, rfl⟩))
      go_roundw
      case measure => simp [intOf]; omega
      case rel => exact ⟨i + 1, by go_num, by omega, Lib.hid (by rw [← HST.out]; exact HO.out.set (v + 1) (c + 1)), Lib.hid (HB.out.setCell (p := ⟨base, v + 1, none⟩) (Nat.le_refl _) _)⟩
    · obtain rfl : i = m := by omega
      have HO2 : Hid (OwnI wr base base (n + 1) (rowF (n + 1) (cn2 e l 0))) := Lib.hid (by
        have := HO.out
        rw [← HLEN.out, cn1_full e l HE0.out] at this
        exact this)
      clear HO hlt
      go_wp2_with fail
      go_loopw [34] (fun v34 wr => ∃ v : Nat, v34 = .int .i64 v ∧ v ≤ n ∧ Hid (OwnI wr base base (n + 1) (rowF (n + 1) (cn2 e l v))) ∧ Hid (Below base w wr)) (fun v34 _ => n - (intOf v34).toNat)
      case atStart => exact ⟨0, rfl, by omega, HO2, HB⟩
      case round =>
        clear HO2 HB
        obtain ⟨v, rfl, hv, HO, HB⟩ := hrel
        by_cases hlt : v < n
        · obtain ⟨c0, f0, l0⟩ := HO.out.facts (v + 1) (by omega)
          obtain ⟨c1, f1, _⟩ := HO.out.facts v (by omega)
          rw [rd_rowF _ (by omega)] at c0 c1
          have HST := Lib.hid (cn2_step e l v (n + 1))
          have hb2 : ∀ j, 0 ≤ cn2 e l v j ∧ cn2 e l v j ≤ 1000 := fun j => by
            unfold cn2
            have h1 := cntE_len e l (j - 1)
            have h2 := cntB_le e l j
            have h3 := HLEN.out
            split <;> omega
          have hq0 := hb2 (v + 1)
          have hq1 := hb2 v
          generalize cn2 e l v (v + 1) = c at *
          generalize cn2 e l v v = d at *
          have hwv : IntKind.i64.wrap ((v : Int) + 1) = (v : Int) + 1 := i64w (by omega) (by omega) (by omega)
          have hwc : IntKind.i64.wrap (c + d) = c + d := i64w (by omega) (by omega) (by omega)
          have hi0' : (0 : Int) ≤ (v : Int) := Int.natCast_nonneg _
          have hi1 : (v : Int) < (n : Int) := by omega
          clear hb2 hq0 hq1
          go_wp2_with fail
          go_region
          all_goals (go_wp2_with fail)
          go_roundw
          case measure => simp [intOf]; omega
          case rel => exact ⟨v + 1, by go_num, by omega, Lib.hid (by rw [← HST.out]; exact (HO.out.set (v + 1) (c + d)).below (Below.refl _ _).drew), Lib.hid ((HB.out.setCell (p := ⟨base, v + 1, none⟩) (Nat.le_refl _) _).drew)⟩
        · obtain rfl : v = n := by omega
          have HO3 : Hid (OwnI wr base base (v + 1) (rowF (v + 1) (cn3 e l 0))) := Lib.hid (by rw [← cn2_full]; exact HO.out)
          have hbw : base ≤ wr.heap.size := by have := HB.out.size; rw [HBS.out] at this; exact this
          clear HO hlt hv
          go_wp2_with (first | (at_make; refine wpList_make_full _ (by rfl) _ _ _ (by rfl) base 3 i0 (.int .i64 0) 1 Try.underlying44 hi0 hz0 hz1 .i64 .i64 _ _ i (by rfl) (by rfl) rfl rfl (by rw [hz2]; omega) (by simp only [maxLen]; omega) hbw ?_; intro w2 hown hgrow; have HO4 := Lib.hid hown; have HG4 := Lib.hid hgrow; clear hown hgrow))
          have HW4 : Hid (OwnI w2 base wr.heap.size i (List.replicate i 0)) := Lib.hid (by
            unfold OwnI
            rw [ints_zero]
            simpa [Value.cells] using HO4.out)
          have hg4 : Below wr.heap.size wr w2 := (Only.of_grown HG4.out).below (Nat.le_refl _) (fun k hk => by cases hk)
          have HC4 := Lib.hid (HO3.out.below hg4)
          have HB4 : Hid (Below base w w2) := Lib.hid (HB.out.trans (hg4.mono hbw))
          have hob : base ≠ wr.heap.size := by have := HO3.out.lt; omega
          generalize wr.heap.size = ob at *
          have HSO : Hid (SoI e l 0 (List.replicate i 0)) := Lib.hid (by have := SoI.start e l; rwa [HLEN.out] at this)
          clear HO3 HO4 HG4 hg4 HB
          go_loopw [54] (fun v54 wr2 => ∃ (j : Nat) (out : List Int), v54 = .int .i64 j ∧ j ≤ i ∧ Hid (OwnI wr2 base base (v + 1) (rowF (v + 1) (cn3 e l j))) ∧ Hid (OwnI wr2 base ob i out) ∧ Hid (SoI e l j out) ∧ Hid (Below base w wr2)) (fun v54 _ => i - (intOf v54).toNat)
          case atStart => exact ⟨0, _, rfl, by omega, HC4, HW4, HSO, HB4⟩
          case round =>
            clear HC4 HW4 HSO HB4
            obtain ⟨j, out, rfl, hj, HCT, HOT, HS, HB⟩ := hrel
            by_cases hlt : j < i
            · have HK := Lib.hid (HLA.out j hlt)
              obtain ⟨x, hx⟩ := Int.eq_ofNat_of_zero_le (HE0.out _ HK.out)
              have hxn : x < v := by have := HE1.out _ HK.out; omega
              have HST := Lib.hid (cn3_step e l j (by have := HLEN.out; omega) x hx (v + 1))
              have hjl : j < l.length := by have := HLEN.out; omega
              have hgl := rd_getL hjl
              have HSS := Lib.hid (HS.out.step hjl (by rw [← hgl]; exact hx) hxn HE1.out)
              rw [← hgl] at HSS
              have hroom := cnt_room e l j hjl x v (by rw [← hgl]; exact hx) hxn HE1.out
              have hcl := cntB_le e l (x + 1)
              rw [HLEN.out] at hcl
              obtain ⟨ad, hA, r0⟩ := Kd.at_int (HCB.out wr HB.out) (j : Int) (by omega) (by omega)
              rw [Int.toNat_natCast] at r0
              obtain ⟨c0, f0, l0⟩ := HCT.out.facts x (by omega)
              rw [rd_rowF _ (by omega)] at c0
              have hp : cn3 e l j x = ((cntB e l x + cntE e (l.take j) x : Nat) : Int) := rfl
              rw [hp] at c0 HST
              have hroom2 : cntB e l x + cntE e (l.take j) x < i := by omega
              generalize cntB e l x + cntE e (l.take j) x = p at *
              obtain ⟨d0, g0, m0⟩ := HOT.out.facts p hroom2
              have HB1' := Lib.hid (HB.out.setCell (p := ⟨ob, p, none⟩) (by rw [HBS.out] at *; have := HOT.out.lt.1; exact this) (.int .i64 (rd l (j : Int))))
              have HC1' := Lib.hid (HCT.out.only ((Only.refl wr (fun k => k = ob)).cell ob p (.int .i64 (rd l (j : Int))) rfl) hob)
              have HO1' := Lib.hid (HOT.out.set p (rd l (j : Int)))
              have HCALL := Lib.hid (HEND.out wr HB.out _ HK.out)
              have HCALL2 := Lib.hid (HEND.out _ HB1'.out _ HK.out)
              rw [hx] at HCALL HCALL2
              have hwc : IntKind.i64.wrap ((p : Int) + 1) = (p : Int) + 1 := i64w (by omega) (by omega) (by omega)
              have hi0' : (0 : Int) ≤ (j : Int) := Int.natCast_nonneg _
              have hi1 : (j : Int) < (i : Int) := by omega
              generalize rd l (j : Int) = k at *
              subst hA
              clear hx hgl hroom hcl hp hjl
              go_wp2_with (first | (go_at_call 19; first | (with_reducible refine HCALL.out.mono ?_; rintro e w' ⟨rfl, rfl⟩) | (with_reducible refine HCALL2.out.mono ?_; rintro e w' ⟨rfl, rfl⟩)))
              go_roundw
              case measure => simp [intOf]; omega
              case rel => exact ⟨j + 1, _, by go_num, by omega, Lib.hid (by rw [← HST.out]; exact HC1'.out.set x ((p : Int) + 1)), Lib.hid (HO1'.out.only ((Only.refl _ (fun k => k = base)).cell base x _ rfl) (fun e => hob e.symm)), HSS, Lib.hid (HB1'.out.setCell (p := ⟨base, x, none⟩) (Nat.le_refl _) _)⟩
            · obtain rfl : j = i := by omega
              clear hlt
              go_wp2_with fail
              go_ret
              exact ⟨ob, out, rfl, HOT.out, HS.out, HB.out⟩

set_option maxRecDepth 100000 in
set_option maxHeartbeats 8000000 in
/-- graph.sorted, by where each leads -/
theorem sortedT_walk (w : World) (mb n : Nat) (A : List S42) (HM0 : MB w mb n A) (hn : n ≤ 900) (l : List Int) (lA : Option Addr) (lc : Nat) (hlc : l.length ≤ lc) (hl : l.length ≤ 1000) (hC : Kd.C (Kd.int .i64) w lA l.length l) (hla : ∀ k ∈ l, 0 ≤ k ∧ k < A.length) (he : ∀ k ∈ l, 0 ≤ twA A k ∧ twA A k < n) :
    Calls Try.prog 23 #[.int .i64 n, .slice lA l.length lc, .func (.func 20) #[] #[.pointer (some ⟨mb, 0, none⟩)]] w fun r w' => ∃ g out, r = .returned (.slice (some ⟨g, 0, none⟩) l.length l.length) ∧ OwnI w' w.heap.size g l.length out ∧ SoI (twA A) l l.length out ∧ Below w.heap.size w w' := by
  obtain ⟨i0, hi0, hz0, hz1, hz2⟩ := info_parts info3'
  have HM := Lib.hid HM0
  have HC := Lib.hid hC
  have HLA : Hid (∀ i : Nat, i < l.length → rd l (i : Int) ∈ l) := Lib.hid (fun i hi => by rw [rd_getL hi]; exact List.getElem_mem _)
  have HA := Lib.hid hla
  have HE := Lib.hid he
  have HE0 : Hid (∀ k ∈ l, 0 ≤ twA A k) := Lib.hid (fun k hk => (he k hk).1)
  have HE1 : Hid (∀ k ∈ l, twA A k < n) := Lib.hid (fun k hk => (he k hk).2)
  obtain ⟨base, hbase⟩ : ∃ base, w.heap.size = base := ⟨_, rfl⟩
  have HBS := Lib.hid hbase
  have HEND := Lib.hid (fun (W : World) (g : Below base w W) (k : Int) (h : k ∈ l) => to_walk W mb n A (HM0.below (by rw [hbase]; exact g)) k (hla k h).1 (hla k h).2)
  have HCB : Hid (∀ W : World, Below base w W → Kd.C (Kd.int .i64) W lA l.length l) := Lib.hid (fun W g => Kd.C_below hC (by rw [hbase]; exact g))
  have hw : IntKind.i64.wrap ((n : Int) + 1) = (n : Int) + 1 := i64w (by omega) (by omega) (by omega)
  obtain ⟨e, hE⟩ : ∃ e, twA A = e := ⟨_, rfl⟩
  simp only [hE] at HE HE0 HE1 HEND ⊢
  obtain ⟨m, hm⟩ : ∃ m, l.length = m := ⟨_, rfl⟩
  have HLEN := Lib.hid hm
  rw [hm] at HCB HLA hlc hl ⊢
  rw [hbase]
  clear hC hla he HM0 hm hE HM HC hbase
  go_enter Try.func23, Try.ntmps23
  go_wp2_with (first | (at_make; refine wpList_make_full _ (by rfl) _ _ _ (by rfl) w.heap.size 3 i0 (.int .i64 0) 1 Try.underlying44 hi0 hz0 hz1 .i64 .i64 _ _ (n + 1) (by rfl) (by rfl) rfl rfl (by rw [hz2]; omega) (by simp only [maxLen]; omega) (Nat.le_refl _) ?_; intro w1 hown hgrow; have HO1 := Lib.hid hown; have HG1 := Lib.hid hgrow; clear hown hgrow))
  have HW1 : Hid (OwnI w1 base base (n + 1) (rowF (n + 1) (cn1 e l 0))) := Lib.hid (by
    have e0 : rowF (n + 1) (cn1 e l 0) = List.replicate (n + 1) 0 := by
      rw [rowF_zero]
      exact rowF_ext (fun j _ => by unfold cn1; simp [cntE])
    unfold OwnI
    rw [e0, ints_zero, ← HBS.out]
    simpa [Value.cells] using HO1.out)
  have HB1 : Hid (Below base w w1) := Lib.hid (by
    rw [← HBS.out]
    exact (Below.refl w.heap.size w).grown HG1.out (Nat.le_refl _) (fun k hk => by cases hk))
  clear HO1 HG1
  rw [HBS.out]
  go_loopw [19] (fun v19 wr => ∃ i : Nat, v19 = .int .i64 i ∧ i ≤ m ∧ Hid (OwnI wr base base (n + 1) (rowF (n + 1) (cn1 e l i))) ∧ Hid (Below base w wr)) (fun v19 _ => m - (intOf v19).toNat)
  case atStart => exact ⟨0, rfl, by omega, HW1, HB1⟩
  case round =>
    obtain ⟨i, rfl, hi, HO, HB⟩ := hrel
    clear HW1 HB1
    by_cases hlt : i < m
    · have HK := Lib.hid (HLA.out i hlt)
      obtain ⟨v, hv⟩ := Int.eq_ofNat_of_zero_le (HE0.out _ HK.out)
      have hvn : v < n := by have := HE1.out _ HK.out; omega
      have HCALL := Lib.hid (HEND.out wr HB.out _ HK.out)
      have HST := Lib.hid (cn1_step e l i (by have := HLEN.out; omega) v hv (n + 1))
      rw [hv] at HCALL
      obtain ⟨ad, hA, r0⟩ := Kd.at_int (HCB.out wr HB.out) (i : Int) (by omega) (by omega)
      rw [Int.toNat_natCast] at r0
      obtain ⟨c0, f0, l0⟩ := HO.out.facts (v + 1) (by omega)
      rw [rd_rowF _ (by omega)] at c0
      have hcb : 0 ≤ cn1 e l i (v + 1) ∧ cn1 e l i (v + 1) ≤ 1000 := by
        unfold cn1
        rw [if_neg (by omega)]
        have h1 := cntE_len e (l.take i) (v + 1 - 1)
        rw [List.length_take] at h1
        omega
      generalize cn1 e l i (v + 1) = c at *
      obtain ⟨hc0, hc1⟩ := hcb
      have hwv : IntKind.i64.wrap ((v : Int) + 1) = (v : Int) + 1 := i64w (by omega) (by omega) (by omega)
      have hwc : IntKind.i64.wrap (c + 1) = c + 1 := i64w (by omega) (by omega) (by omega)
      have hi0' : (0 : Int) ≤ (i : Int) := Int.natCast_nonneg _
      have hi1 : (i : Int) < (m : Int) := by omega
      generalize rd l (i : Int) = k at *
      subst hA
      clear hv
      go_wp2_with (first | (go_at_call 20; refine HCALL.out.mono ?_; rintro e w' ⟨rfl, rfl⟩))
      go_roundw
      case measure => simp [intOf]; omega
      case rel => exact ⟨i + 1, by go_num, by omega, Lib.hid (by rw [← HST.out]; exact HO.out.set (v + 1) (c + 1)), Lib.hid (HB.out.setCell (p := ⟨base, v + 1, none⟩) (Nat.le_refl _) _)⟩
    · obtain rfl : i = m := by omega
      have HO2 : Hid (OwnI wr base base (n + 1) (rowF (n + 1) (cn2 e l 0))) := Lib.hid (by
        have := HO.out
        rw [← HLEN.out, cn1_full e l HE0.out] at this
        exact this)
      clear HO hlt
      go_wp2_with fail
      go_loopw [34] (fun v34 wr => ∃ v : Nat, v34 = .int .i64 v ∧ v ≤ n ∧ Hid (OwnI wr base base (n + 1) (rowF (n + 1) (cn2 e l v))) ∧ Hid (Below base w wr)) (fun v34 _ => n - (intOf v34).toNat)
      case atStart => exact ⟨0, rfl, by omega, HO2, HB⟩
      case round =>
        clear HO2 HB
        obtain ⟨v, rfl, hv, HO, HB⟩ := hrel
        by_cases hlt : v < n
        · obtain ⟨c0, f0, l0⟩ := HO.out.facts (v + 1) (by omega)
          obtain ⟨c1, f1, _⟩ := HO.out.facts v (by omega)
          rw [rd_rowF _ (by omega)] at c0 c1
          have HST := Lib.hid (cn2_step e l v (n + 1))
          have hb2 : ∀ j, 0 ≤ cn2 e l v j ∧ cn2 e l v j ≤ 1000 := fun j => by
            unfold cn2
            have h1 := cntE_len e l (j - 1)
            have h2 := cntB_le e l j
            have h3 := HLEN.out
            split <;> omega
          have hq0 := hb2 (v + 1)
          have hq1 := hb2 v
          generalize cn2 e l v (v + 1) = c at *
          generalize cn2 e l v v = d at *
          have hwv : IntKind.i64.wrap ((v : Int) + 1) = (v : Int) + 1 := i64w (by omega) (by omega) (by omega)
          have hwc : IntKind.i64.wrap (c + d) = c + d := i64w (by omega) (by omega) (by omega)
          have hi0' : (0 : Int) ≤ (v : Int) := Int.natCast_nonneg _
          have hi1 : (v : Int) < (n : Int) := by omega
          clear hb2 hq0 hq1
          go_wp2_with fail
          go_region
          all_goals (go_wp2_with fail)
          go_roundw
          case measure => simp [intOf]; omega
          case rel => exact ⟨v + 1, by go_num, by omega, Lib.hid (by rw [← HST.out]; exact (HO.out.set (v + 1) (c + d)).below (Below.refl _ _).drew), Lib.hid ((HB.out.setCell (p := ⟨base, v + 1, none⟩) (Nat.le_refl _) _).drew)⟩
        · obtain rfl : v = n := by omega
          have HO3 : Hid (OwnI wr base base (v + 1) (rowF (v + 1) (cn3 e l 0))) := Lib.hid (by rw [← cn2_full]; exact HO.out)
          have hbw : base ≤ wr.heap.size := by have := HB.out.size; rw [HBS.out] at this; exact this
          clear HO hlt hv
          go_wp2_with (first | (at_make; refine wpList_make_full _ (by rfl) _ _ _ (by rfl) base 3 i0 (.int .i64 0) 1 Try.underlying44 hi0 hz0 hz1 .i64 .i64 _ _ i (by rfl) (by rfl) rfl rfl (by rw [hz2]; omega) (by simp only [maxLen]; omega) hbw ?_; intro w2 hown hgrow; have HO4 := Lib.hid hown; have HG4 := Lib.hid hgrow; clear hown hgrow))
          have HW4 : Hid (OwnI w2 base wr.heap.size i (List.replicate i 0)) := Lib.hid (by
            unfold OwnI
            rw [ints_zero]
            simpa [Value.cells] using HO4.out)
          have hg4 : Below wr.heap.size wr w2 := (Only.of_grown HG4.out).below (Nat.le_refl _) (fun k hk => by cases hk)
          have HC4 := Lib.hid (HO3.out.below hg4)
          have HB4 : Hid (Below base w w2) := Lib.hid (HB.out.trans (hg4.mono hbw))
          have hob : base ≠ wr.heap.size := by have := HO3.out.lt; omega
          generalize wr.heap.size = ob at *
          have HSO : Hid (SoI e l 0 (List.replicate i 0)) := Lib.hid (by have := SoI.start e l; rwa [HLEN.out] at this)
          clear HO3 HO4 HG4 hg4 HB
          go_loopw [54] (fun v54 wr2 => ∃ (j : Nat) (out : List Int), v54 = .int .i64 j ∧ j ≤ i ∧ Hid (OwnI wr2 base base (v + 1) (rowF (v + 1) (cn3 e l j))) ∧ Hid (OwnI wr2 base ob i out) ∧ Hid (SoI e l j out) ∧ Hid (Below base w wr2)) (fun v54 _ => i - (intOf v54).toNat)
          case atStart => exact ⟨0, _, rfl, by omega, HC4, HW4, HSO, HB4⟩
          case round =>
            clear HC4 HW4 HSO HB4
            obtain ⟨j, out, rfl, hj, HCT, HOT, HS, HB⟩ := hrel
            by_cases hlt : j < i
            · have HK := Lib.hid (HLA.out j hlt)
              obtain ⟨x, hx⟩ := Int.eq_ofNat_of_zero_le (HE0.out _ HK.out)
              have hxn : x < v := by have := HE1.out _ HK.out; omega
              have HST := Lib.hid (cn3_step e l j (by have := HLEN.out; omega) x hx (v + 1))
              have hjl : j < l.length := by have := HLEN.out; omega
              have hgl := rd_getL hjl
              have HSS := Lib.hid (HS.out.step hjl (by rw [← hgl]; exact hx) hxn HE1.out)
              rw [← hgl] at HSS
              have hroom := cnt_room e l j hjl x v (by rw [← hgl]; exact hx) hxn HE1.out
              have hcl := cntB_le e l (x + 1)
              rw [HLEN.out] at hcl
              obtain ⟨ad, hA, r0⟩ := Kd.at_int (HCB.out wr HB.out) (j : Int) (by omega) (by omega)
              rw [Int.toNat_natCast] at r0
              obtain ⟨c0, f0, l0⟩ := HCT.out.facts x (by omega)
              rw [rd_rowF _ (by omega)] at c0
              have hp : cn3 e l j x = ((cntB e l x + cntE e (l.take j) x : Nat) : Int) := rfl
              rw [hp] at c0 HST
              have hroom2 : cntB e l x + cntE e (l.take j) x < i := by omega
              generalize cntB e l x + cntE e (l.take j) x = p at *
              obtain ⟨d0, g0, m0⟩ := HOT.out.facts p hroom2
              have HB1' := Lib.hid (HB.out.setCell (p := ⟨ob, p, none⟩) (by rw [HBS.out] at *; have := HOT.out.lt.1; exact this) (.int .i64 (rd l (j : Int))))
              have HC1' := Lib.hid (HCT.out.only ((Only.refl wr (fun k => k = ob)).cell ob p (.int .i64 (rd l (j : Int))) rfl) hob)
              have HO1' := Lib.hid (HOT.out.set p (rd l (j : Int)))
              have HCALL := Lib.hid (HEND.out wr HB.out _ HK.out)
              have HCALL2 := Lib.hid (HEND.out _ HB1'.out _ HK.out)
              rw [hx] at HCALL HCALL2
              have hwc : IntKind.i64.wrap ((p : Int) + 1) = (p : Int) + 1 := i64w (by omega) (by omega) (by omega)
              have hi0' : (0 : Int) ≤ (j : Int) := Int.natCast_nonneg _
              have hi1 : (j : Int) < (i : Int) := by omega
              generalize rd l (j : Int) = k at *
              subst hA
              clear hx hgl hroom hcl hp hjl
              go_wp2_with (first | (go_at_call 20; first | (with_reducible refine HCALL.out.mono ?_; rintro e w' ⟨rfl, rfl⟩) | (with_reducible refine HCALL2.out.mono ?_; rintro e w' ⟨rfl, rfl⟩)))
              go_roundw
              case measure => simp [intOf]; omega
              case rel => exact ⟨j + 1, _, by go_num, by omega, Lib.hid (by rw [← HST.out]; exact HC1'.out.set x ((p : Int) + 1)), Lib.hid (HO1'.out.only ((Only.refl _ (fun k => k = base)).cell base x _ rfl) (fun e => hob e.symm)), HSS, Lib.hid (HB1'.out.setCell (p := ⟨base, x, none⟩) (Nat.le_refl _) _)⟩
            · obtain rfl : j = i := by omega
              clear hlt
              go_wp2_with fail
              go_ret
              exact ⟨ob, out, rfl, HOT.out, HS.out, HB.out⟩
end Go.Proofs.Ytfppfdejjifhdaa.PAll
