import Derived.Test.YtfppfdejjifhdaaQLzA
namespace Go.Proofs.Ytfppfdejjifhdaa.PAll
open Go.RowKit Go.Proofs.YtfppfdejjifhdaaW.PrintWords Go.Proofs.YtfppfdejjifhdaaW.PrintLast Go.Proofs.YtfppfdejjifhdaaW.PrintMore
open Hp hiding Good
set_option linter.unusedVariables false
set_option linter.unusedSimpArgs false

theorem ends_ok {n : Nat} {A : List S42} (hok : MapOk n A) {k : Int} (h0 : 0 ≤ k) (h1 : k < A.length) : (0 ≤ frA A k ∧ frA A k < n) ∧ (0 ≤ twA A k ∧ twA A k < n) ∧ 0 ≤ wtA A k ∧ wtA A k ≤ 2147483648 := by
  obtain ⟨i, rfl⟩ := Int.eq_ofNat_of_zero_le h0
  obtain ⟨a, b, c, d, e, f⟩ := hok.arcs _ (rd79_mem (A := A) (i := i) (by omega))
  exact ⟨⟨a, b⟩, ⟨c, d⟩, e, f⟩
set_option maxRecDepth 100000 in
set_option maxHeartbeats 8000000 in
/-- graph.lay -/
theorem layO_walk (w : World) (mb n : Nat) (A : List S42) (Aa : Option Addr) (ca : Nat) (HM0 : MB w mb n A) (hC : Kd.C k42 w Aa A.length A) (hca : A.length ≤ ca) (hok : MapOk n A) (l : List Int) (lA : Option Addr) (lc : Nat) (hlc : l.length ≤ lc) (hl : l.length ≤ 1000) (hlC : Kd.C (Kd.int .i64) w lA l.length l) (hla : ∀ k ∈ l, 0 ≤ k ∧ k < A.length) :
    Calls Try.prog 26 #[.agg #[.int .i64 n, .slice Aa A.length ca], .slice lA l.length lc, .func (.func 19) #[] #[.pointer (some ⟨mb, 0, none⟩)], .func (.func 20) #[] #[.pointer (some ⟨mb, 0, none⟩)]] w (LayPost w n (frA A) (twA A) (wtA A) l) := by
  obtain ⟨i0, hi0, hz0, hz1, hz2⟩ := info_parts info3'
  have h12 := hok.n1
  have hal : A.length ≤ 40 := hok.few
  have HEN : Hid (∀ k ∈ l, (0 ≤ frA A k ∧ frA A k < n) ∧ (0 ≤ twA A k ∧ twA A k < n)) := Lib.hid (fun k hk => by have := ends_ok hok (hla k hk).1 (hla k hk).2; exact ⟨this.1, this.2.1⟩)
  have HW := Lib.hid (fun (k : Int) (h0 : 0 ≤ k) (h1 : k < A.length) => (ends_ok hok h0 h1).2.2)
  have HLA := Lib.hid hla
  have HLEN : Hid (l.length ≤ 1000 ∧ l.length ≤ lc) := Lib.hid ⟨hl, hlc⟩
  have HLC := Lib.hid hlC
  have hw : IntKind.i64.wrap ((n : Int) + 1) = (n : Int) + 1 := i64w (by omega) (by omega) (by omega)
  have g0 : Below w.heap.size w ((w.alloc (.cells #[.int .i64 n, .slice Aa A.length ca] 27)).alloc (.cells #[.slice none 0 0, .slice none 0 0] 61)) := ((Below.refl _ w).alloc (Nat.le_refl _) _).alloc (by simp) _
  have HG0 := Lib.hid g0
  have HM2 : Hid (((w.alloc (.cells #[.int .i64 n, .slice Aa A.length ca] 27)).alloc (.cells #[.slice none 0 0, .slice none 0 0] 61)).heap[w.heap.size]? = some (.cells #[.int .i64 n, .slice Aa A.length ca] 27 (0, 0))) := Lib.hid (blk_alloc (blk_new w _) _)
  have HRS : Hid (((w.alloc (.cells #[.int .i64 n, .slice Aa A.length ca] 27)).alloc (.cells #[.slice none 0 0, .slice none 0 0] 61)).heap[w.heap.size + 1]? = some (.cells #[.slice none 0 0, .slice none 0 0] 61 (0, 0))) := Lib.hid (by
    have := blk_new (w.alloc (.cells #[.int .i64 n, .slice Aa A.length ca] 27)) (.cells #[.slice none 0 0, .slice none 0 0] 61)
    rwa [World.size_alloc] at this)
  have HM := Lib.hid HM0
  have HC := Lib.hid hC
  have HOK := Lib.hid hok
  clear hC hok hla hl hlc hlC g0 HM0
  go_enter Try.func26, Try.ntmps26
  go_upto_region 1 with fail
  generalize (w.alloc (.cells #[.int .i64 n, .slice Aa A.length ca] 27)).alloc (.cells #[.slice none 0 0, .slice none 0 0] 61) = W0 at *
  have m0 := (blk_cell HM2.out 0).trans rfl
  have ml := blk_lt HM2.out
  go_upto_region 2 with (first | (at_make; refine wpList_make_full _ (by rfl) _ _ _ (by rfl) W0.heap.size 3 i0 (.int .i64 0) 1 Try.underlying44 hi0 hz0 hz1 .i64 .i64 _ _ (n + 1) (by rfl) (by rfl) rfl rfl (by rw [hz2]; omega) (by simp only [maxLen]; omega) (Nat.le_refl _) ?_; intro w1 hown hgrow; have HO1 := Lib.hid hown; have HG1 := Lib.hid hgrow; clear hown hgrow))
  have hB1 : Below W0.heap.size W0 w1 := (Only.of_grown HG1.out).below (Nat.le_refl _) (fun k hk => by cases hk)
  have HW1 : Hid (OwnI w1 W0.heap.size W0.heap.size (n + 1) (List.replicate (n + 1) 0)) := Lib.hid (by
    unfold OwnI
    rw [ints_zero]
    simpa [Value.cells] using HO1.out)
  obtain ⟨W1, hW1⟩ : ∃ W1, w1.alloc (.cells #[.slice (some ⟨W0.heap.size, 0, none⟩) (n + 1) (n + 1), .slice none 0 0] 61) = W1 := ⟨_, rfl⟩
  rw [hW1]
  have hB2 : Below w1.heap.size w1 W1 := by rw [← hW1]; exact (Below.refl _ _).alloc (Nat.le_refl _) _
  have HSB : Hid (W1.heap[w1.heap.size]? = some (.cells #[.slice (some ⟨W0.heap.size, 0, none⟩) (n + 1) (n + 1), .slice none 0 0] 61 (0, 0))) := Lib.hid (by rw [← hW1]; exact blk_new w1 _)
  have HBG := Lib.hid (HW1.out.below hB2)
  have HB12 : Hid (Below W0.heap.size W0 W1) := Lib.hid (hB1.trans (hB2.mono hB1.size))
  have hsl : w1.heap.size < W1.heap.size := blk_lt HSB.out
  have hbl : W0.heap.size < w1.heap.size := HW1.out.lt.2
  have hrb : w.heap.size + 1 < W0.heap.size := blk_lt HRS.out
  have HM2' := Lib.hid ((HB12.out.block _ (blk_lt HM2.out)).trans HM2.out)
  have HRS' := Lib.hid ((HB12.out.block _ (blk_lt HRS.out)).trans HRS.out)
  have HGW : Hid (Below w.heap.size w W1) := Lib.hid (HG0.out.trans (HB12.out.mono HG0.out.size))
  clear m0 ml HO1 HG1 hB1 hB2 hW1 HM2 HRS HW1
  generalize W0.heap.size = bg at *
  generalize w1.heap.size = sb at *
  have m0 := (blk_cell HM2'.out 0).trans rfl
  have ml := blk_lt HM2'.out
  have HS1 := Lib.hid (sortedT_walk W1.drew mb n A (HM.out.below HGW.out.drew) (by omega) l lA lc HLEN.out.2 HLEN.out.1 (Kd.C_below HLC.out HGW.out.drew) HLA.out (fun k hk => (HEN.out k hk).2))
  have HSS : Hid (∀ (wa : World) (ga : Nat) (l1 : List Int), OwnI wa W1.drew.heap.size ga l.length l1 → SoI (twA A) l l.length l1 → Below W1.drew.heap.size W1.drew wa → Calls Try.prog 23 #[.int .i64 n, .slice (some ⟨ga, 0, none⟩) l.length l.length, .func (.func 19) #[] #[.pointer (some ⟨mb, 0, none⟩)]] wa fun r w' => ∃ g out, r = .returned (.slice (some ⟨g, 0, none⟩) l.length l.length) ∧ OwnI w' wa.heap.size g l.length out ∧ SoI (frA A) l1 l1.length out ∧ Below wa.heap.size wa w') := Lib.hid (fun wa ga l1 hO hS hG => by
    have hi := hS.iff (n := n) (fun k hk => (HEN.out k hk).2)
    have e : l1.length = l.length := hS.len
    have hmx : l.length ≤ maxLen := by have := HLEN.out.1; simp only [maxLen]; omega
    have := sortedF_walk wa mb n A (HM.out.below (HGW.out.drew.trans (hG.mono HGW.out.drew.size))) (by omega) l1 (some ⟨ga, 0, none⟩) l.length (by omega) (by rw [e]; exact HLEN.out.1) (by rw [e]; exact hO.C hmx) (fun k hk => HLA.out k ((hi k).1 hk)) (fun k hk => (HEN.out k ((hi k).1 hk)).1)
    rw [e] at this
    exact this.mono (fun r w' h => by rw [e]; exact h))
  have HMA : Hid (∀ wa, Below W1.drew.heap.size W1.drew wa → wa.cell? ⟨w.heap.size, 0, none⟩ = some (.int .i64 n)) := Lib.hid (fun wa g => (blk_cell ((g.block _ ml).trans HM2'.out) 0).trans rfl)
  have HMB : Hid (∀ wa wb, Below W1.drew.heap.size W1.drew wa → Below wa.heap.size wa wb → wb.cell? ⟨w.heap.size, 0, none⟩ = some (.int .i64 n)) := Lib.hid (fun wa wb g h => HMA.out wb (g.trans (h.mono g.size)))
  refine start_ (n := 11) (S := fun w' => w'.cell? ⟨w.heap.size, 0, none⟩ = some (.int .i64 n)) (ds := []) #[false, false, false, false, false, false, false, false, false, false, false] (by kernel_rfl) rfl rfl (m0) (fun hHeld => ?_)
  refine pure_ (i := 0) (N := some 18) (v := ?_) (a' := ?_) #[true, false, false, false, false, false, false, false, false, false, false] rfl rfl (by kernel_rfl) (fun _ _ _ h => h) (Or.inl ⟨by rfl, ?_⟩) ?_ ?_
  rotate_left
  · intro w'
    go_simp
    with_reducible rfl
  rotate_left
  · simp only [Act.put, List.setIfInBounds_toArray, List.set_cons_zero, List.set_cons_succ, i64_w, i32_w]
    rfl
  refine pure_ (i := 2) (N := some 20) (v := ?_) (a' := ?_) #[true, false, true, false, false, false, false, false, false, false, false] rfl rfl (by kernel_rfl) (fun _ _ _ h => h) (Or.inl ⟨by rfl, ?_⟩) ?_ ?_
  rotate_left
  · intro w'
    go_simp
    with_reducible rfl
  rotate_left
  · simp only [Act.put, List.setIfInBounds_toArray, List.set_cons_zero, List.set_cons_succ, i64_w, i32_w]
    rfl
  refine pure_ (i := 4) (N := some 22) (v := ?_) (a' := ?_) #[true, false, true, false, true, false, false, false, false, false, false] rfl rfl (by kernel_rfl) (fun _ _ _ h => h) (Or.inl ⟨by rfl, ?_⟩) ?_ ?_
  rotate_left
  · intro w'
    go_simp
    with_reducible rfl
  rotate_left
  · simp only [Act.put, List.setIfInBounds_toArray, List.set_cons_zero, List.set_cons_succ, i64_w, i32_w]
    rfl
  refine pure_ (i := 5) (N := some 23) (v := ?_) (a' := ?_) #[true, false, true, false, true, true, false, false, false, false, false] rfl rfl (by kernel_rfl) (fun _ _ _ h => h) (Or.inl ⟨by rfl, ?_⟩) ?_ ?_
  rotate_left
  · intro w'
    go_simp
    with_reducible rfl
  rotate_left
  · simp only [Act.put, List.setIfInBounds_toArray, List.set_cons_zero, List.set_cons_succ, i64_w, i32_w]
    rfl
  refine pure_ (i := 7) (N := some 25) (v := ?_) (a' := ?_) #[true, false, true, false, true, true, false, true, false, false, false] rfl rfl (by kernel_rfl) (fun _ _ _ h => h) (Or.inl ⟨by rfl, ?_⟩) ?_ ?_
  rotate_left
  · intro w'
    go_simp
    with_reducible rfl
  rotate_left
  · simp only [Act.put, List.setIfInBounds_toArray, List.set_cons_zero, List.set_cons_succ, i64_w, i32_w]
    rfl
  refine pure_ (i := 10) (N := some 28) (v := ?_) (a' := ?_) #[true, false, true, false, true, true, false, true, false, false, true] rfl rfl (by kernel_rfl) (fun _ _ _ h => h) (Or.inl ⟨by rfl, ?_⟩) ?_ ?_
  rotate_left
  · intro w'
    go_simp
    with_reducible rfl
  rotate_left
  · simp only [Act.put, List.setIfInBounds_toArray, List.set_cons_zero, List.set_cons_succ, i64_w, i32_w]
    rfl
  refine take_ (i := 1) (N := some 19) (v := ?_) (a' := ?_) #[true, true, true, false, true, true, false, true, false, false, true] rfl rfl (by kernel_rfl) (fun _ _ _ h => h) (Or.inl ⟨by rfl, ?_⟩) hHeld ?_ ?_
  rotate_left
  · intro w' s0
    go_simp
    with_reducible rfl
  rotate_left
  · simp only [Act.put, List.setIfInBounds_toArray, List.set_cons_zero, List.set_cons_succ, i64_w, i32_w]
    rfl
  refine take_ (i := 3) (N := some 21) (v := ?_) (a' := ?_) #[true, true, true, true, true, true, false, true, false, false, true] rfl rfl (by kernel_rfl) (fun _ _ _ h => h) (Or.inl ⟨by rfl, ?_⟩) hHeld ?_ ?_
  rotate_left
  · intro w' s0
    go_simp
    with_reducible rfl
  rotate_left
  · simp only [Act.put, List.setIfInBounds_toArray, List.set_cons_zero, List.set_cons_succ, i64_w, i32_w]
    rfl
  refine one_ (i := 6) (N := some 24) #[true, true, true, true, true, true, true, true, false, false, true] rfl rfl (by kernel_rfl) (by decide) (fun K hK => ?_)
  refine goes_ Try.func23 (by kernel_rfl) rfl #[.int .i64 n, .slice lA l.length lc, .func (.func 20) #[] #[.pointer (some ⟨mb, 0, none⟩)]] (by rfl) rfl rfl (by simp only [List.map_toArray, List.map_cons, List.map_nil]; rfl) ?_
  with_reducible refine (HS1.out).mono ?_
  rintro e wa ⟨ga, l1, rfl, hO1, hS1, hGa⟩
  have HO1 := Lib.hid hO1
  have HSO1 := Lib.hid hS1
  have HGa := Lib.hid hGa
  clear hO1 hS1 hGa
  have HS2 := Lib.hid (HSS.out wa ga l1 HO1.out HSO1.out HGa.out)
  have ma := HMA.out wa HGa.out
  refine ⟨_, rfl, ?_⟩
  refine hK.out _ _ (ma) (fun hHeld => ?_)
  clear hK K
  refine norm_ (a' := ?_) ?_ ?_
  rotate_left
  · show Act.put _ (some 24) _ = _
    simp only [Act.put, List.setIfInBounds_toArray, List.set_cons_zero, List.set_cons_succ, i64_w, i32_w]
    rfl
  refine one_ (i := 8) (N := some 26) #[true, true, true, true, true, true, true, true, true, false, true] rfl rfl (by kernel_rfl) (by decide) (fun K hK => ?_)
  refine goes_ Try.func23 (by kernel_rfl) rfl #[.int .i64 n, .slice (some ⟨ga, 0, none⟩) l.length l.length, .func (.func 19) #[] #[.pointer (some ⟨mb, 0, none⟩)]] (by rfl) rfl rfl (by simp only [List.map_toArray, List.map_cons, List.map_nil]; rfl) ?_
  with_reducible refine (HS2.out).mono ?_
  rintro e wb ⟨gb, l2, rfl, hO2, hS2, hGb⟩
  have HO2 := Lib.hid hO2
  have HSO2 := Lib.hid hS2
  have HGb := Lib.hid hGb
  clear hO2 hS2 hGb
  have mb2 := HMB.out wa wb HGa.out HGb.out
  refine ⟨_, rfl, ?_⟩
  refine hK.out _ _ (mb2) (fun hHeld => ?_)
  clear hK K
  refine norm_ (a' := ?_) ?_ ?_
  rotate_left
  · show Act.put _ (some 26) _ = _
    simp only [Act.put, List.setIfInBounds_toArray, List.set_cons_zero, List.set_cons_succ, i64_w, i32_w]
    rfl
  refine pure_ (i := 9) (N := some 27) (v := ?_) (a' := ?_) #[true, true, true, true, true, true, true, true, true, true, true] rfl rfl (by kernel_rfl) (fun _ _ _ h => h) (Or.inl ⟨by rfl, ?_⟩) ?_ ?_
  rotate_left
  · intro w'
    go_simp
    with_reducible rfl
  rotate_left
  · simp only [Act.put, List.setIfInBounds_toArray, List.set_cons_zero, List.set_cons_succ, i64_w, i32_w]
    rfl
  refine done_ (by kernel_rfl) ?_
  have HL2 : Hid (l2.length = l.length) := Lib.hid (HSO2.out.len.trans HSO1.out.len)
  have hGab : Below W1.heap.size W1 wb := (((Below.refl W1.heap.size W1).drew).trans HGa.out).trans (HGb.out.mono HGa.out.size)
  have HW2 : Hid (Below W1.heap.size W1 wb) := Lib.hid hGab
  have hsz2 := hGab.size
  have hga := HGa.out.size
  have hgb := HO2.out.lt
  have hwa : W1.heap.size ≤ wa.heap.size := hga
  have HIN : Hid (∀ k ∈ l2, k ∈ l) := Lib.hid (fun k hk => ((HSO1.out.iff (n := n) (fun k hk => (HEN.out k hk).2) k).1 ((HSO2.out.iff (n := n) (fun k hk => (HEN.out k ((HSO1.out.iff (n := n) (fun k hk => (HEN.out k hk).2) k).1 hk)).1) k).1 hk)))
  have HS0 : Hid (LayS wb wb bg sb n (.slice none 0 0) (rowF (n + 1) (cn1 (frA A) l2 0)) ((l2.take 0).map fun k => (⟨twA A k, wtA A k, k⟩ : S55))) := Lib.hid (by
    have e0 : rowF (n + 1) (cn1 (frA A) l2 0) = List.replicate (n + 1) 0 := by
      rw [rowF_zero]
      exact rowF_ext (fun j _ => by unfold cn1; simp [cntE])
    rw [e0]
    exact ⟨(hGab.block _ hsl).trans HSB.out, HBG.out.below hGab, Kd.R_nil _ _ _ _ _, Only.refl _ _, by omega, by omega, by omega⟩)
  have HBL : Hid (∀ W, Only wb W (fun k => k = bg ∨ k = sb) → Below w.heap.size w W) := Lib.hid (fun W o => (HGW.out.trans (hGab.mono HGW.out.size)).trans (o.below (by have := HGW.out.size; omega) (fun k hk => by omega)))
  have HRB : Hid (∀ W, Only wb W (fun k => k = bg ∨ k = sb) → W.heap[w.heap.size + 1]? = some (.cells #[.slice none 0 0, .slice none 0 0] 61 (0, 0)) ∧ W.heap[w.heap.size]? = some (.cells #[.int .i64 n, .slice Aa A.length ca] 27 (0, 0)) ∧ OwnI W wa.heap.size gb l.length l2) := Lib.hid (fun W o =>
    ⟨(o.block _ (by omega) (by omega)).trans ((hGab.block _ (by omega)).trans HRS'.out), (o.block _ (by omega) (by omega)).trans ((hGab.block _ (by omega)).trans HM2'.out), HO2.out.only o (by omega)⟩)
  have HSO1' := HSO1
  clear m0 ml mb2 hHeld HMA HMB HSS HS1 HS2 ma hGab hga hwa HO1 HO2 HSB HBG HB12 HM2' HRS' HG0 HGa HGb
  obtain ⟨m, hm⟩ : ∃ m, l.length = m := ⟨_, rfl⟩
  have HML := Lib.hid hm
  rw [hm] at HRB HL2 HLEN ⊢
  have hm9 : m ≤ 1000 := HLEN.out.1
  clear hm
  go_wp2_with fail
  go_loopw [28] (fun v28 wr => ∃ (i : Nat) (ev : Value), v28 = .int .i64 i ∧ i ≤ m ∧ Hid (LayS wb wr bg sb n ev (rowF (n + 1) (cn1 (frA A) l2 i)) ((l2.take i).map fun k => (⟨twA A k, wtA A k, k⟩ : S55)))) (fun v28 _ => m - (intOf v28).toNat)
  case atStart => exact ⟨0, _, rfl, by omega, HS0⟩
  case round =>
    clear HS0
    obtain ⟨i, ev, rfl, hi, HS⟩ := hrel
    by_cases hlt : i < m
    · have HGL := Lib.hid (rd_getL (d := l2) (b := i) (by have := HL2.out; omega))
      have HKM : Hid (rd l2 (i : Int) ∈ l2) := Lib.hid (by rw [HGL.out]; exact List.getElem_mem _)
      obtain ⟨kn, hkn⟩ := Int.eq_ofNat_of_zero_le (HLA.out _ (HIN.out _ HKM.out)).1
      have hkm := HKM.out
      rw [hkn] at hkm
      have hkb := HLA.out _ (HIN.out _ hkm)
      have hkw := HW.out _ hkb.1 hkb.2
      have hk1 := (HEN.out _ (HIN.out _ hkm)).1
      obtain ⟨x1, hx1⟩ := Int.eq_ofNat_of_zero_le hk1.1
      have hx1n : x1 < n := by omega
      have HST := Lib.hid (cn1_step (frA A) l2 i (by have := HL2.out; omega) x1 (by rw [hkn]; exact hx1) (n + 1))
      have HTK : Hid ((l2.take (i + 1)).map (fun k => (⟨twA A k, wtA A k, k⟩ : S55)) = (l2.take i).map (fun k => (⟨twA A k, wtA A k, k⟩ : S55)) ++ [⟨twA A kn, wtA A kn, kn⟩]) := Lib.hid (by
        rw [List.take_succ_eq_append_getElem (by have := HL2.out; omega), List.map_append, ← hkn, HGL.out]
        rfl)
      have HBW := Lib.hid (HBL.out wr HS.out.rest)
      have HR := Lib.hid (HRB.out wr HS.out.rest)
      obtain ⟨ad, hA, _, _, r2⟩ := at_T42 (Kd.C_below HC.out HBW.out) (kn : Int) hkb.1 hkb.2
      have hwt : wtA A (kn : Int) = (rd_T42 A (kn : Int)).f2 := rfl
      rw [← hwt] at r2
      have HC5 := Lib.hid (to_walk wr.drew mb n A (HM.out.below HBW.out.drew) _ hkb.1 hkb.2)
      have HC6' := Lib.hid (fun (W : World) (g : Below w.heap.size w W) => from_walk W mb n A (HM.out.below g) _ hkb.1 hkb.2)
      obtain ⟨q0, qf, ql⟩ := HR.out.2.2.facts i hlt
      rw [hkn] at q0
      have hsmall : ((((l2.take i).map fun k => (⟨twA A k, wtA A k, k⟩ : S55))).length + 1) * 24 ≤ 140737488355328 := by
        rw [List.length_map, List.length_take]
        have := HLEN.out
        omega
      rw [hx1] at HC6'
      generalize twA A (kn : Int) = x2 at *
      generalize wtA A (kn : Int) = kw at *
      simp only [Int.toNat_natCast] at r2
      have hk9 : (kn : Int) < (A.length : Int) := hkb.2
      have hk8 : (0 : Int) ≤ (kn : Int) := Int.natCast_nonneg _
      generalize hEL : ((l2.take i).map fun k => (⟨twA A k, wtA A k, k⟩ : S55)) = EL at *
      have hi0' : (0 : Int) ≤ (i : Int) := Int.natCast_nonneg _
      have hi1 : (i : Int) < (m : Int) := by omega
      subst hA
      have c5 : wr.cell? ⟨sb, 1, none⟩ = some ev ∧ wr.cell? ⟨w.heap.size, 1, none⟩ = some (.slice (some ad) A.length ca) ∧ wr.cell? ⟨(ad.add (kn * 3)).block, (ad.add (kn * 3)).off + 2, none⟩ = some (.int .i64 kw) := ⟨(blk_cell HS.out.s 1).trans rfl, (blk_cell HR.out.2.1 1).trans rfl, r2⟩
      clear hkb hk1 hx1 hwt hkw r2 hEL hkn hkm
      go_upto_region 5 with fail
      clear q0 qf ql
      have HLD := Lib.hid (HS.out.below ((Below.refl wr.heap.size wr).drew))
      have hc1 := World.block_lt_of_cell? wr _ c5.1
      have hc2 := World.block_lt_of_cell? wr _ c5.2.1
      have hc3 := World.block_lt_of_cell? wr _ c5.2.2
      have hB5 : Below wr.drew.heap.size wr.drew (wr.drew.alloc (.cells #[.int .i64 x2, .int .i64 kw, .int .i64 kn] 55)) := (Below.refl _ _).alloc (Nat.le_refl _) _
      have d5 : (wr.drew.alloc (.cells #[.int .i64 x2, .int .i64 kw, .int .i64 kn] 55)).cell? ⟨sb, 1, none⟩ = some ev ∧ (wr.drew.alloc (.cells #[.int .i64 x2, .int .i64 kw, .int .i64 kn] 55)).cell? ⟨w.heap.size, 1, none⟩ = some (.slice (some ad) A.length ca) ∧ (wr.drew.alloc (.cells #[.int .i64 x2, .int .i64 kw, .int .i64 kn] 55)).cell? ⟨(ad.add (kn * 3)).block, (ad.add (kn * 3)).off + 2, none⟩ = some (.int .i64 kw) :=
        ⟨(hB5.cell (p := ⟨sb, 1, none⟩) hc1).trans c5.1, (hB5.cell (p := ⟨w.heap.size, 1, none⟩) hc2).trans c5.2.1, (hB5.cell (p := ⟨(ad.add (kn * 3)).block, (ad.add (kn * 3)).off + 2, none⟩) hc3).trans c5.2.2⟩
      have HEV : Hid (∀ w9 : World, wr.drew.grownBy w9 ev.ownBlock → w9.cell? ⟨sb, 1, none⟩ = some ev) := Lib.hid (fun w9 g => (blk_cell ((g.block _ (blk_lt HLD.out.s) (fun e => by have := (HLD.out.own sb e.symm).1; have := HLD.out.sl; omega)).trans HLD.out.s) 1).trans rfl)
      have HEVF : Hid (∀ w9 : World, wr.drew.grownBy w9 ev.ownBlock → w9.frozen? ⟨sb, 1, none⟩ = false) := Lib.hid (fun w9 g => blk_frozen ((g.block _ (blk_lt HLD.out.s) (fun e => by have := (HLD.out.own sb e.symm).1; have := HLD.out.sl; omega)).trans HLD.out.s) 1)
      have HBASE : Hid (wb.heap.size ≤ wr.drew.heap.size) := Lib.hid HLD.out.rest.size
      refine start_ (n := 17) (S := fun w' => w'.cell? ⟨sb, 1, none⟩ = some ev ∧ w'.cell? ⟨w.heap.size, 1, none⟩ = some (.slice (some ad) A.length ca) ∧ w'.cell? ⟨(ad.add (kn * 3)).block, (ad.add (kn * 3)).off + 2, none⟩ = some (.int .i64 kw)) (ds := [14, 16]) #[false, false, false, false, false, false, false, false, false, false, false, false, false, false, false, false, false] (by kernel_rfl) rfl rfl ⟨c5.1, c5.2.1, c5.2.2⟩ (fun hHeld => ?_)
      refine pure_ (i := 0) (N := some 32) (v := ?_) (a' := ?_) #[true, false, false, false, false, false, false, false, false, false, false, false, false, false, false, false, false] rfl rfl (by kernel_rfl) (fun _ _ _ h => h) (Or.inl ⟨by rfl, ?_⟩) ?_ ?_
      rotate_left
      · intro w'
        go_simp
        with_reducible rfl
      rotate_left
      · simp only [Act.put, List.setIfInBounds_toArray, List.set_cons_zero, List.set_cons_succ, i64_w, i32_w]
        rfl
      refine pure_ (i := 2) (N := some 34) (v := ?_) (a' := ?_) #[true, false, true, false, false, false, false, false, false, false, false, false, false, false, false, false, false] rfl rfl (by kernel_rfl) (fun _ _ _ h => h) (Or.inl ⟨by rfl, ?_⟩) ?_ ?_
      rotate_left
      · intro w'
        go_simp
        with_reducible rfl
      rotate_left
      · simp only [Act.put, List.setIfInBounds_toArray, List.set_cons_zero, List.set_cons_succ, i64_w, i32_w]
        rfl
      refine pure_ (i := 3) (N := some 35) (v := ?_) (a' := ?_) #[true, false, true, true, false, false, false, false, false, false, false, false, false, false, false, false, false] rfl rfl (by kernel_rfl) (fun _ _ _ h => h) (Or.inl ⟨by rfl, ?_⟩) ?_ ?_
      rotate_left
      · intro w'
        go_simp
        with_reducible rfl
      rotate_left
      · simp only [Act.put, List.setIfInBounds_toArray, List.set_cons_zero, List.set_cons_succ, i64_w, i32_w]
        rfl
      refine pure_ (i := 5) (N := some 37) (v := ?_) (a' := ?_) #[true, false, true, true, false, true, false, false, false, false, false, false, false, false, false, false, false] rfl rfl (by kernel_rfl) (fun _ _ _ h => h) (Or.inl ⟨by rfl, ?_⟩) ?_ ?_
      rotate_left
      · intro w'
        go_simp
        with_reducible rfl
      rotate_left
      · simp only [Act.put, List.setIfInBounds_toArray, List.set_cons_zero, List.set_cons_succ, i64_w, i32_w]
        rfl
      refine pure_ (i := 7) (N := some 39) (v := ?_) (a' := ?_) #[true, false, true, true, false, true, false, true, false, false, false, false, false, false, false, false, false] rfl rfl (by kernel_rfl) (fun _ _ _ h => h) (Or.inl ⟨by rfl, ?_⟩) ?_ ?_
      rotate_left
      · intro w'
        go_simp
        with_reducible rfl
      rotate_left
      · simp only [Act.put, List.setIfInBounds_toArray, List.set_cons_zero, List.set_cons_succ, i64_w, i32_w]
        rfl
      refine pure_ (i := 11) (N := some 43) (v := ?_) (a' := ?_) #[true, false, true, true, false, true, false, true, false, false, false, true, false, false, false, false, false] rfl rfl (by kernel_rfl) (fun _ _ _ h => h) (Or.inl ⟨by rfl, ?_⟩) ?_ ?_
      rotate_left
      · intro w'
        go_simp
        with_reducible rfl
      rotate_left
      · simp only [Act.put, List.setIfInBounds_toArray, List.set_cons_zero, List.set_cons_succ, i64_w, i32_w]
        rfl
      refine take_ (i := 1) (N := some 33) (v := ?_) (a' := ?_) #[true, true, true, true, false, true, false, true, false, false, false, true, false, false, false, false, false] rfl rfl (by kernel_rfl) (fun _ _ _ h => h) (Or.inl ⟨by rfl, ?_⟩) hHeld ?_ ?_
      rotate_left
      · rintro w' ⟨s0, s1, s2⟩
        go_simp
        with_reducible rfl
      rotate_left
      · simp only [Act.put, List.setIfInBounds_toArray, List.set_cons_zero, List.set_cons_succ, i64_w, i32_w]
        rfl
      refine take_ (i := 6) (N := some 38) (v := ?_) (a' := ?_) #[true, true, true, true, false, true, true, true, false, false, false, true, false, false, false, false, false] rfl rfl (by kernel_rfl) (fun _ _ _ h => h) (Or.inl ⟨by rfl, ?_⟩) hHeld ?_ ?_
      rotate_left
      · rintro w' ⟨s0, s1, s2⟩
        go_simp
        with_reducible rfl
      rotate_left
      · simp only [Act.put, List.setIfInBounds_toArray, List.set_cons_zero, List.set_cons_succ, i64_w, i32_w]
        rfl
      refine pure_ (i := 8) (N := some 40) (v := ?_) (a' := ?_) #[true, true, true, true, false, true, true, true, true, false, false, true, false, false, false, false, false] rfl rfl (by kernel_rfl) (fun _ _ _ h => h) (Or.inl ⟨by rfl, ?_⟩) ?_ ?_
      rotate_left
      · intro w'
        go_simp
        with_reducible rfl
      rotate_left
      · simp only [Act.put, List.setIfInBounds_toArray, List.set_cons_zero, List.set_cons_succ, i64_w, i32_w]
        rfl
      refine pure_ (i := 9) (N := some 41) (v := ?_) (a' := ?_) #[true, true, true, true, false, true, true, true, true, true, false, true, false, false, false, false, false] rfl rfl (by kernel_rfl) (fun _ _ _ h => h) (Or.inl ⟨by rfl, ?_⟩) ?_ ?_
      rotate_left
      · intro w'
        go_simp
        with_reducible rfl
      rotate_left
      · simp only [Act.put, List.setIfInBounds_toArray, List.set_cons_zero, List.set_cons_succ, i64_w, i32_w]
        rfl
      refine take_ (i := 10) (N := some 42) (v := ?_) (a' := ?_) #[true, true, true, true, false, true, true, true, true, true, true, true, false, false, false, false, false] rfl rfl (by kernel_rfl) (fun _ _ _ h => h) (Or.inl ⟨by rfl, ?_⟩) hHeld ?_ ?_
      rotate_left
      · rintro w' ⟨s0, s1, s2⟩
        go_simp
        with_reducible rfl
      rotate_left
      · simp only [Act.put, List.setIfInBounds_toArray, List.set_cons_zero, List.set_cons_succ, i64_w, i32_w]
        rfl
      refine one_ (i := 4) (N := some 36) #[true, true, true, true, true, true, true, true, true, true, true, true, false, false, false, false, false] rfl rfl (by kernel_rfl) (by decide) (fun K hK => ?_)
      refine goesC_ Try.func20 (by kernel_rfl) rfl (.tmp 34) #[.pointer (some ⟨mb, 0, none⟩)] #[.int .i64 kn, .pointer (some ⟨mb, 0, none⟩)] (by rfl) rfl rfl (by rfl) (by simp only [List.map_toArray, List.map_cons, List.map_nil]; rfl) ?_
      with_reducible refine (HC5.out).mono ?_
      rintro e w3 ⟨rfl, rfl⟩
      refine ⟨_, rfl, ?_⟩
      refine hK.out _ _ ⟨c5.1, c5.2.1, c5.2.2⟩ (fun hHeld => ?_)
      clear hK K
      refine norm_ (a' := ?_) ?_ ?_
      rotate_left
      · show Act.put _ (some 36) _ = _
        simp only [Act.put, List.setIfInBounds_toArray, List.set_cons_zero, List.set_cons_succ, i64_w, i32_w]
        rfl
      refine pure_ (i := 12) (N := some 44) (v := ?_) (a' := ?_) #[true, true, true, true, true, true, true, true, true, true, true, true, true, false, false, false, false] rfl rfl (by kernel_rfl) (fun _ _ _ h => h) (Or.inl ⟨by rfl, ?_⟩) ?_ ?_
      rotate_left
      · intro w'
        go_simp
        with_reducible rfl
      rotate_left
      · simp only [Act.put, List.setIfInBounds_toArray, List.set_cons_zero, List.set_cons_succ, i64_w, i32_w]
        rfl
      refine one_ (i := 13) (N := some 45) #[true, true, true, true, true, true, true, true, true, true, true, true, true, true, false, false, false] rfl rfl (by kernel_rfl) (by decide) (fun K hK => ?_)
      refine value_ (w1 := ?_) (v := ?_) (by rfl) rfl ?_ ?_
      rotate_left 2
      · go_simp
        constructor
        · rfl
        · rfl
      refine hK.out _ _ ⟨d5.1, d5.2.1, d5.2.2⟩ (fun hHeld => ?_)
      clear hK K
      refine norm_ (a' := ?_) ?_ ?_
      rotate_left
      · show Act.put _ (some 45) _ = _
        simp only [Act.put, List.setIfInBounds_toArray, List.set_cons_zero, List.set_cons_succ, i64_w, i32_w]
        rfl
      refine last_ (i := 14) (N := some 46) #[true, true, true, true, true, true, true, true, true, true, true, true, true, true, true, false, false] rfl rfl (by kernel_rfl) (by decide) (fun K hK => ?_)
      refine Kd.R_append_step k55 (w0 := wr.drew) (W := wr.drew) wb.heap.size (by rfl) (.tmp 33) (.tmp 45) 52 55 (.agg #[(.int .i64 0), (.int .i64 0), (.int .i64 0)]) 24 rfl Try.underlying52 info55 rfl (by decide) (by omega) ev EL (⟨x2, kw, (kn : Int)⟩ : S55) [.int .i64 x2, .int .i64 kw, .int .i64 kn] (fun _ => True) (fun _ => False) rfl rfl (k55_mkM _ _ _ (⟨x2, kw, (kn : Int)⟩ : S55)) (fun _ h => h.elim) (fun _ _ => trivial) HLD.out.edg (Below.refl _ _) HBASE.out hsmall ?_
      intro v9 w9 hR9 hB9 hG9 _
      obtain ⟨Y9, z9, hv9⟩ := Kd.R_slice hR9
      generalize (EL ++ [(⟨x2, kw, (kn : Int)⟩ : S55)]).length = y9 at hv9
      subst hv9
      have HL9 := Lib.hid (HLD.out.app hR9 hG9)
      have e5 := HEV.out w9 hG9
      have f5 := HEVF.out w9 hG9
      clear hR9 hB9 hG9
      refine hK.out _ _ ?_
      clear hK K
      refine norm_ (a' := ?_) ?_ ?_
      rotate_left
      · show Act.put _ (some 46) _ = _
        simp only [Act.put, List.setIfInBounds_toArray, List.set_cons_zero, List.set_cons_succ, i64_w, i32_w]
        rfl
      refine pure_ (i := 15) (N := some 47) (v := ?_) (a' := ?_) #[true, true, true, true, true, true, true, true, true, true, true, true, true, true, true, true, false] rfl rfl (by kernel_rfl) (fun _ _ _ h => h) (Or.inl ⟨by rfl, ?_⟩) ?_ ?_
      rotate_left
      · intro w'
        go_simp
        with_reducible rfl
      rotate_left
      · simp only [Act.put, List.setIfInBounds_toArray, List.set_cons_zero, List.set_cons_succ, i64_w, i32_w]
        rfl
      refine last_ (i := 16) (N := none) #[true, true, true, true, true, true, true, true, true, true, true, true, true, true, true, true, true] rfl rfl (by kernel_rfl) (by decide) (fun K hK => ?_)
      refine skip_ (w1 := ?_) (by rfl) rfl ?_ ?_
      rotate_left
      · go_simp
        rfl
      refine hK.out _ _ ?_
      clear hK K
      refine done_ (by kernel_rfl) ?_
      have HL6 := HL9
      rw [← HTK.out] at HL6
      generalize w9.setCell ⟨sb, 1, none⟩ (.slice Y9 y9 z9) = W6 at *
      have HBW6 := Lib.hid (HBL.out W6 HL6.out.rest)
      have HC6 := Lib.hid (HC6'.out W6.drew HBW6.out.drew)
      obtain ⟨b0, bf, bl6⟩ := HL6.out.beg.facts (x1 + 1) (by omega)
      rw [rd_rowF _ (by omega)] at b0
      have hcb : 0 ≤ cn1 (frA A) l2 i (x1 + 1) ∧ cn1 (frA A) l2 i (x1 + 1) ≤ 1000 := by
        unfold cn1
        rw [if_neg (by omega)]
        have h1 := cntE_len (frA A) (l2.take i) (x1 + 1 - 1)
        rw [List.length_take] at h1
        have := HLEN.out
        omega
      generalize cn1 (frA A) l2 i (x1 + 1) = c at *
      obtain ⟨hcb0, hcb1⟩ := hcb
      have hwv : IntKind.i64.wrap ((x1 : Int) + 1) = (x1 : Int) + 1 := i64w (by omega) (by omega) (by omega)
      have hwc : IntKind.i64.wrap (c + 1) = c + 1 := i64w (by omega) (by omega) (by omega)
      have c6 : W6.cell? ⟨sb, 0, none⟩ = some (.slice (some ⟨bg, 0, none⟩) (n + 1) (n + 1)) ∧ W6.cell? ⟨bg, x1 + 1, none⟩ = some (.int .i64 c) := ⟨(blk_cell HL6.out.s 0).trans rfl, b0⟩
      clear c5 d5 e5 f5 HEVF hB5 hc1 hc2 hc3 HLD HEV HBASE HL9 HTK HC5 HC6' hsmall b0
      have hx0 : (0 : Int) ≤ (x1 : Int) + 1 := by omega
      have hx9 : (x1 : Int) + 1 < (n : Int) + 1 := by omega
      go_upto_region 6 with fail
      refine start_ (n := 11) (S := fun w' => w'.cell? ⟨sb, 0, none⟩ = some (.slice (some ⟨bg, 0, none⟩) (n + 1) (n + 1)) ∧ w'.cell? ⟨bg, x1 + 1, none⟩ = some (.int .i64 c)) (ds := [10]) #[false, false, false, false, false, false, false, false, false, false, false] (by kernel_rfl) rfl rfl ⟨c6.1, c6.2⟩ (fun hHeld => ?_)
      refine pure_ (i := 0) (N := some 48) (v := ?_) (a' := ?_) #[true, false, false, false, false, false, false, false, false, false, false] rfl rfl (by kernel_rfl) (fun _ _ _ h => h) (Or.inl ⟨by rfl, ?_⟩) ?_ ?_
      rotate_left
      · intro w'
        go_simp
        with_reducible rfl
      rotate_left
      · simp only [Act.put, List.setIfInBounds_toArray, List.set_cons_zero, List.set_cons_succ, i64_w, i32_w]
        rfl
      refine pure_ (i := 2) (N := some 50) (v := ?_) (a' := ?_) #[true, false, true, false, false, false, false, false, false, false, false] rfl rfl (by kernel_rfl) (fun _ _ _ h => h) (Or.inl ⟨by rfl, ?_⟩) ?_ ?_
      rotate_left
      · intro w'
        go_simp
        with_reducible rfl
      rotate_left
      · simp only [Act.put, List.setIfInBounds_toArray, List.set_cons_zero, List.set_cons_succ, i64_w, i32_w]
        rfl
      refine pure_ (i := 3) (N := some 51) (v := ?_) (a' := ?_) #[true, false, true, true, false, false, false, false, false, false, false] rfl rfl (by kernel_rfl) (fun _ _ _ h => h) (Or.inl ⟨by rfl, ?_⟩) ?_ ?_
      rotate_left
      · intro w'
        go_simp
        with_reducible rfl
      rotate_left
      · simp only [Act.put, List.setIfInBounds_toArray, List.set_cons_zero, List.set_cons_succ, i64_w, i32_w]
        rfl
      refine take_ (i := 1) (N := some 49) (v := ?_) (a' := ?_) #[true, true, true, true, false, false, false, false, false, false, false] rfl rfl (by kernel_rfl) (fun _ _ _ h => h) (Or.inl ⟨by rfl, ?_⟩) hHeld ?_ ?_
      rotate_left
      · rintro w' ⟨s0, s1⟩
        go_simp
        with_reducible rfl
      rotate_left
      · simp only [Act.put, List.setIfInBounds_toArray, List.set_cons_zero, List.set_cons_succ, i64_w, i32_w]
        rfl
      refine one_ (i := 4) (N := some 52) #[true, true, true, true, true, false, false, false, false, false, false] rfl rfl (by kernel_rfl) (by decide) (fun K hK => ?_)
      refine goesC_ Try.func19 (by kernel_rfl) rfl (.tmp 50) #[.pointer (some ⟨mb, 0, none⟩)] #[.int .i64 kn, .pointer (some ⟨mb, 0, none⟩)] (by rfl) rfl rfl (by rfl) (by simp only [List.map_toArray, List.map_cons, List.map_nil]; rfl) ?_
      with_reducible refine (HC6.out).mono ?_
      rintro e w3 ⟨rfl, rfl⟩
      refine ⟨_, rfl, ?_⟩
      refine hK.out _ _ ⟨c6.1, c6.2⟩ (fun hHeld => ?_)
      clear hK K
      refine norm_ (a' := ?_) ?_ ?_
      rotate_left
      · show Act.put _ (some 52) _ = _
        simp only [Act.put, List.setIfInBounds_toArray, List.set_cons_zero, List.set_cons_succ, i64_w, i32_w]
        rfl
      refine pure_ (i := 5) (N := some 53) (v := ?_) (a' := ?_) #[true, true, true, true, true, true, false, false, false, false, false] rfl rfl (by kernel_rfl) (fun _ _ _ h => h) (Or.inl ⟨by rfl, ?_⟩) ?_ ?_
      rotate_left
      · intro w'
        go_simp
        with_reducible rfl
      rotate_left
      · simp only [Act.put, List.setIfInBounds_toArray, List.set_cons_zero, List.set_cons_succ, i64_w, i32_w]
        rfl
      refine pure_ (i := 6) (N := some 54) (v := ?_) (a' := ?_) #[true, true, true, true, true, true, true, false, false, false, false] rfl rfl (by kernel_rfl) (fun _ _ _ h => h) (Or.inl ⟨by rfl, ?_⟩) ?_ ?_
      rotate_left
      · intro w'
        go_simp
        with_reducible rfl
      rotate_left
      · simp only [Act.put, List.setIfInBounds_toArray, List.set_cons_zero, List.set_cons_succ, i64_w, i32_w]
        rfl
      refine take_ (i := 7) (N := some 55) (v := ?_) (a' := ?_) #[true, true, true, true, true, true, true, true, false, false, false] rfl rfl (by kernel_rfl) (fun _ _ _ h => h) (Or.inl ⟨by rfl, ?_⟩) hHeld ?_ ?_
      rotate_left
      · rintro w' ⟨s0, s1⟩
        go_simp
        with_reducible rfl
      rotate_left
      · simp only [Act.put, List.setIfInBounds_toArray, List.set_cons_zero, List.set_cons_succ, i64_w, i32_w]
        rfl
      refine pure_ (i := 8) (N := some 56) (v := ?_) (a' := ?_) #[true, true, true, true, true, true, true, true, true, false, false] rfl rfl (by kernel_rfl) (fun _ _ _ h => h) (Or.inl ⟨by rfl, ?_⟩) ?_ ?_
      rotate_left
      · intro w'
        go_simp
        with_reducible rfl
      rotate_left
      · simp only [Act.put, List.setIfInBounds_toArray, List.set_cons_zero, List.set_cons_succ, i64_w, i32_w]
        rfl
      refine pure_ (i := 9) (N := some 57) (v := ?_) (a' := ?_) #[true, true, true, true, true, true, true, true, true, true, false] rfl rfl (by kernel_rfl) (fun _ _ _ h => h) (Or.inl ⟨by rfl, ?_⟩) ?_ ?_
      rotate_left
      · intro w'
        go_simp
        with_reducible rfl
      rotate_left
      · simp only [Act.put, List.setIfInBounds_toArray, List.set_cons_zero, List.set_cons_succ, i64_w, i32_w]
        rfl
      refine last_ (i := 10) (N := none) #[true, true, true, true, true, true, true, true, true, true, true] rfl rfl (by kernel_rfl) (by decide) (fun K hK => ?_)
      refine skip_ (w1 := ?_) (by rfl) rfl ?_ ?_
      rotate_left
      · go_simp
        rfl
      refine hK.out _ _ ?_
      clear hK K
      refine done_ (by kernel_rfl) ?_
      go_wp2_with fail
      go_roundw
      case measure => simp [intOf]; omega
      case rel => exact ⟨i + 1, _, by go_num, by omega, Lib.hid (by rw [← HST.out]; exact (HL6.out.below ((Below.refl W6.heap.size W6).drew)).inc (x1 + 1) (c + 1))⟩
    · obtain rfl : i = m := by omega
      have HS2 : Hid (LayS wb wr bg sb n ev (rowF (n + 1) (cn2 (frA A) l2 0)) (l2.map fun k => (⟨twA A k, wtA A k, k⟩ : S55))) := Lib.hid (by
        have := HS.out
        rw [← HL2.out, cn1_full (frA A) l2 (fun k hk => (HEN.out k (HIN.out k hk)).1.1), List.take_length] at this
        exact this)
      have HMC := Lib.hid ((blk_cell (HRB.out wr HS.out.rest).2.1 0).trans rfl)
      have m0 : wr.cell? ⟨w.heap.size, 0, none⟩ = some (.int .i64 n) := HMC.out
      clear HS
      go_wp2_with fail
      go_loopw [61] (fun v61 wr => ∃ v : Nat, v61 = .int .i64 v ∧ v ≤ n ∧ Hid (LayS wb wr bg sb n ev (rowF (n + 1) (cn2 (frA A) l2 v)) (l2.map fun k => (⟨twA A k, wtA A k, k⟩ : S55)))) (fun v61 _ => n - (intOf v61).toNat)
      case atStart => exact ⟨0, rfl, by omega, HS2⟩
      case round =>
        clear HS2 m0 HMC
        obtain ⟨v, rfl, hv, HS⟩ := hrel
        by_cases hlt2 : v < n
        · obtain ⟨c0, f0, l0⟩ := HS.out.beg.facts (v + 1) (by omega)
          obtain ⟨c1, f1, _⟩ := HS.out.beg.facts v (by omega)
          rw [rd_rowF _ (by omega)] at c0 c1
          have s0 : wr.cell? ⟨sb, 0, none⟩ = some (.slice (some ⟨bg, 0, none⟩) (n + 1) (n + 1)) := (blk_cell HS.out.s 0).trans rfl
          have sl0 := blk_lt HS.out.s
          have HST := Lib.hid (cn2_step (frA A) l2 v (n + 1))
          have hb2 : ∀ j, 0 ≤ cn2 (frA A) l2 v j ∧ cn2 (frA A) l2 v j ≤ 1000 := fun j => by
            unfold cn2
            have h1 := cntE_len (frA A) l2 (j - 1)
            have h2 := cntB_le (frA A) l2 j
            have h3 := HL2.out
            have h4 := HLEN.out
            split <;> omega
          have hq0 := hb2 (v + 1)
          have hq1 := hb2 v
          generalize cn2 (frA A) l2 v (v + 1) = c at *
          generalize cn2 (frA A) l2 v v = d at *
          have hwv : IntKind.i64.wrap ((v : Int) + 1) = (v : Int) + 1 := i64w (by omega) (by omega) (by omega)
          have hwc : IntKind.i64.wrap (c + d) = c + d := i64w (by omega) (by omega) (by omega)
          have hi0' : (0 : Int) ≤ (v : Int) := Int.natCast_nonneg _
          have hi1 : (v : Int) < (n : Int) := by omega
          clear hb2 hq0 hq1
          go_wp2_with fail
          go_region
          all_goals (go_wp2_with fail)
          go_roundw
          case measure => simp [intOf]; omega
          case rel => exact ⟨v + 1, by go_num, by omega, Lib.hid (by rw [← HST.out]; exact (HS.out.inc (v + 1) (c + d)).below (Below.refl _ _).drew)⟩
        · obtain rfl : v = n := by omega
          obtain ⟨EA, ec, hev, hle, hEC⟩ := Kd.R_reads HS.out.edg
          rw [List.length_map] at hev hle hEC
          have HRW := Lib.hid (HRB.out wr HS.out.rest).1
          have HBW := Lib.hid (HBL.out wr HS.out.rest)
          have HBG : Hid (OwnI wr bg bg (v + 1) (rowF (v + 1) (cn3 (frA A) l2 0))) := Lib.hid (by rw [← cn2_full]; exact HS.out.beg)
          subst hev
          have HED := Lib.hid HS.out.edg
          have HLE := Lib.hid hle
          have s0 : wr.cell? ⟨sb, 0, none⟩ = some (.slice (some ⟨bg, 0, none⟩) (v + 1) (v + 1)) := (blk_cell HS.out.s 0).trans rfl
          have s1 : wr.cell? ⟨sb, 1, none⟩ = some (.slice EA l2.length ec) := (blk_cell HS.out.s 1).trans rfl
          have sl0 := blk_lt HS.out.s
          have r0 := (blk_cell HRW.out 0).trans rfl
          have r1 := (blk_cell HRW.out 1).trans rfl
          have rl := blk_lt HRW.out
          have rf : ∀ j, wr.frozen? ⟨w.heap.size + 1, j, none⟩ = false := fun j => blk_frozen HRW.out j
          clear hEC hle HS
          go_wp2_with fail
          have p0 := blk_put HRW.out 0 (.slice (some ⟨bg, 0, none⟩) (v + 1) (v + 1)) (cs' := #[.slice (some ⟨bg, 0, none⟩) (v + 1) (v + 1), .slice none 0 0]) rfl
          have p1 := blk_put p0 1 (.slice EA l2.length ec) (cs' := #[.slice (some ⟨bg, 0, none⟩) (v + 1) (v + 1), .slice EA l2.length ec]) rfl
          have hwb : w.heap.size ≤ wb.heap.size := by have := HGW.out.size; omega
          refine bodyPost_ret (results_cell_row rfl _ _ (w.heap.size + 1) 61 #[.slice (some ⟨bg, 0, none⟩) (v + 1) (v + 1), .slice EA l2.length ec] (0, 0) _ rfl p1 Try.underlying61 rfl (by kernel_rfl)) rfl ?_
          refine ⟨bg, l1, l2, EA, ec, rfl, ?_, HLE.out, ?_, HSO1'.out, HSO2.out, ?_⟩
          · exact HBG.out.only (((Only.refl wr (fun k => k = w.heap.size + 1)).cell (w.heap.size + 1) 0 _ rfl).cell (w.heap.size + 1) 1 _ rfl) (by omega)
          · have h1 := Kd.R_set (Kd.R_set HED.out HRW.out (by decide) 0 (.slice (some ⟨bg, 0, none⟩) (v + 1) (v + 1))) p0 (by decide) 1 (.slice EA l2.length ec)
            exact Kd.R_lower h1 hwb
          · exact (HBW.out.setCell (p := ⟨w.heap.size + 1, 0, none⟩) (by simp) _).setCell (p := ⟨w.heap.size + 1, 1, none⟩) (by simp) _
set_option maxRecDepth 100000 in
set_option maxHeartbeats 8000000 in
/-- graph.lay -/
theorem layI_walk (w : World) (mb n : Nat) (A : List S42) (Aa : Option Addr) (ca : Nat) (HM0 : MB w mb n A) (hC : Kd.C k42 w Aa A.length A) (hca : A.length ≤ ca) (hok : MapOk n A) (l : List Int) (lA : Option Addr) (lc : Nat) (hlc : l.length ≤ lc) (hl : l.length ≤ 1000) (hlC : Kd.C (Kd.int .i64) w lA l.length l) (hla : ∀ k ∈ l, 0 ≤ k ∧ k < A.length) :
    Calls Try.prog 26 #[.agg #[.int .i64 n, .slice Aa A.length ca], .slice lA l.length lc, .func (.func 20) #[] #[.pointer (some ⟨mb, 0, none⟩)], .func (.func 19) #[] #[.pointer (some ⟨mb, 0, none⟩)]] w (LayPost w n (twA A) (frA A) (wtA A) l) := by
  obtain ⟨i0, hi0, hz0, hz1, hz2⟩ := info_parts info3'
  have h12 := hok.n1
  have hal : A.length ≤ 40 := hok.few
  have HEN : Hid (∀ k ∈ l, (0 ≤ twA A k ∧ twA A k < n) ∧ (0 ≤ frA A k ∧ frA A k < n)) := Lib.hid (fun k hk => by have := ends_ok hok (hla k hk).1 (hla k hk).2; exact ⟨this.2.1, this.1⟩)
  have HW := Lib.hid (fun (k : Int) (h0 : 0 ≤ k) (h1 : k < A.length) => (ends_ok hok h0 h1).2.2)
  have HLA := Lib.hid hla
  have HLEN : Hid (l.length ≤ 1000 ∧ l.length ≤ lc) := Lib.hid ⟨hl, hlc⟩
  have HLC := Lib.hid hlC
  have hw : IntKind.i64.wrap ((n : Int) + 1) = (n : Int) + 1 := i64w (by omega) (by omega) (by omega)
  have g0 : Below w.heap.size w ((w.alloc (.cells #[.int .i64 n, .slice Aa A.length ca] 27)).alloc (.cells #[.slice none 0 0, .slice none 0 0] 61)) := ((Below.refl _ w).alloc (Nat.le_refl _) _).alloc (by simp) _
  have HG0 := Lib.hid g0
  have HM2 : Hid (((w.alloc (.cells #[.int .i64 n, .slice Aa A.length ca] 27)).alloc (.cells #[.slice none 0 0, .slice none 0 0] 61)).heap[w.heap.size]? = some (.cells #[.int .i64 n, .slice Aa A.length ca] 27 (0, 0))) := Lib.hid (blk_alloc (blk_new w _) _)
  have HRS : Hid (((w.alloc (.cells #[.int .i64 n, .slice Aa A.length ca] 27)).alloc (.cells #[.slice none 0 0, .slice none 0 0] 61)).heap[w.heap.size + 1]? = some (.cells #[.slice none 0 0, .slice none 0 0] 61 (0, 0))) := Lib.hid (by
    have := blk_new (w.alloc (.cells #[.int .i64 n, .slice Aa A.length ca] 27)) (.cells #[.slice none 0 0, .slice none 0 0] 61)
    rwa [World.size_alloc] at this)
  have HM := Lib.hid HM0
  have HC := Lib.hid hC
  have HOK := Lib.hid hok
  clear hC hok hla hl hlc hlC g0 HM0
  go_enter Try.func26, Try.ntmps26
  go_upto_region 1 with fail
  generalize (w.alloc (.cells #[.int .i64 n, .slice Aa A.length ca] 27)).alloc (.cells #[.slice none 0 0, .slice none 0 0] 61) = W0 at *
  have m0 := (blk_cell HM2.out 0).trans rfl
  have ml := blk_lt HM2.out
  go_upto_region 2 with (first | (at_make; refine wpList_make_full _ (by rfl) _ _ _ (by rfl) W0.heap.size 3 i0 (.int .i64 0) 1 Try.underlying44 hi0 hz0 hz1 .i64 .i64 _ _ (n + 1) (by rfl) (by rfl) rfl rfl (by rw [hz2]; omega) (by simp only [maxLen]; omega) (Nat.le_refl _) ?_; intro w1 hown hgrow; have HO1 := Lib.hid hown; have HG1 := Lib.hid hgrow; clear hown hgrow))
  have hB1 : Below W0.heap.size W0 w1 := (Only.of_grown HG1.out).below (Nat.le_refl _) (fun k hk => by cases hk)
  have HW1 : Hid (OwnI w1 W0.heap.size W0.heap.size (n + 1) (List.replicate (n + 1) 0)) := Lib.hid (by
    unfold OwnI
    rw [ints_zero]
    simpa [Value.cells] using HO1.out)
  obtain ⟨W1, hW1⟩ : ∃ W1, w1.alloc (.cells #[.slice (some ⟨W0.heap.size, 0, none⟩) (n + 1) (n + 1), .slice none 0 0] 61) = W1 := ⟨_, rfl⟩
  rw [hW1]
  have hB2 : Below w1.heap.size w1 W1 := by rw [← hW1]; exact (Below.refl _ _).alloc (Nat.le_refl _) _
  have HSB : Hid (W1.heap[w1.heap.size]? = some (.cells #[.slice (some ⟨W0.heap.size, 0, none⟩) (n + 1) (n + 1), .slice none 0 0] 61 (0, 0))) := Lib.hid (by rw [← hW1]; exact blk_new w1 _)
  have HBG := Lib.hid (HW1.out.below hB2)
  have HB12 : Hid (Below W0.heap.size W0 W1) := Lib.hid (hB1.trans (hB2.mono hB1.size))
  have hsl : w1.heap.size < W1.heap.size := blk_lt HSB.out
  have hbl : W0.heap.size < w1.heap.size := HW1.out.lt.2
  have hrb : w.heap.size + 1 < W0.heap.size := blk_lt HRS.out
  have HM2' := Lib.hid ((HB12.out.block _ (blk_lt HM2.out)).trans HM2.out)
  have HRS' := Lib.hid ((HB12.out.block _ (blk_lt HRS.out)).trans HRS.out)
  have HGW : Hid (Below w.heap.size w W1) := Lib.hid (HG0.out.trans (HB12.out.mono HG0.out.size))
  clear m0 ml HO1 HG1 hB1 hB2 hW1 HM2 HRS HW1
  generalize W0.heap.size = bg at *
  generalize w1.heap.size = sb at *
  have m0 := (blk_cell HM2'.out 0).trans rfl
  have ml := blk_lt HM2'.out
  have HS1 := Lib.hid (sortedF_walk W1.drew mb n A (HM.out.below HGW.out.drew) (by omega) l lA lc HLEN.out.2 HLEN.out.1 (Kd.C_below HLC.out HGW.out.drew) HLA.out (fun k hk => (HEN.out k hk).2))
  have HSS : Hid (∀ (wa : World) (ga : Nat) (l1 : List Int), OwnI wa W1.drew.heap.size ga l.length l1 → SoI (frA A) l l.length l1 → Below W1.drew.heap.size W1.drew wa → Calls Try.prog 23 #[.int .i64 n, .slice (some ⟨ga, 0, none⟩) l.length l.length, .func (.func 20) #[] #[.pointer (some ⟨mb, 0, none⟩)]] wa fun r w' => ∃ g out, r = .returned (.slice (some ⟨g, 0, none⟩) l.length l.length) ∧ OwnI w' wa.heap.size g l.length out ∧ SoI (twA A) l1 l1.length out ∧ Below wa.heap.size wa w') := Lib.hid (fun wa ga l1 hO hS hG => by
    have hi := hS.iff (n := n) (fun k hk => (HEN.out k hk).2)
    have e : l1.length = l.length := hS.len
    have hmx : l.length ≤ maxLen := by have := HLEN.out.1; simp only [maxLen]; omega
    have := sortedT_walk wa mb n A (HM.out.below (HGW.out.drew.trans (hG.mono HGW.out.drew.size))) (by omega) l1 (some ⟨ga, 0, none⟩) l.length (by omega) (by rw [e]; exact HLEN.out.1) (by rw [e]; exact hO.C hmx) (fun k hk => HLA.out k ((hi k).1 hk)) (fun k hk => (HEN.out k ((hi k).1 hk)).1)
    rw [e] at this
    exact this.mono (fun r w' h => by rw [e]; exact h))
  have HMA : Hid (∀ wa, Below W1.drew.heap.size W1.drew wa → wa.cell? ⟨w.heap.size, 0, none⟩ = some (.int .i64 n)) := Lib.hid (fun wa g => (blk_cell ((g.block _ ml).trans HM2'.out) 0).trans rfl)
  have HMB : Hid (∀ wa wb, Below W1.drew.heap.size W1.drew wa → Below wa.heap.size wa wb → wb.cell? ⟨w.heap.size, 0, none⟩ = some (.int .i64 n)) := Lib.hid (fun wa wb g h => HMA.out wb (g.trans (h.mono g.size)))
  refine start_ (n := 11) (S := fun w' => w'.cell? ⟨w.heap.size, 0, none⟩ = some (.int .i64 n)) (ds := []) #[false, false, false, false, false, false, false, false, false, false, false] (by kernel_rfl) rfl rfl (m0) (fun hHeld => ?_)
  refine pure_ (i := 0) (N := some 18) (v := ?_) (a' := ?_) #[true, false, false, false, false, false, false, false, false, false, false] rfl rfl (by kernel_rfl) (fun _ _ _ h => h) (Or.inl ⟨by rfl, ?_⟩) ?_ ?_
  rotate_left
  · intro w'
    go_simp
    with_reducible rfl
  rotate_left
  · simp only [Act.put, List.setIfInBounds_toArray, List.set_cons_zero, List.set_cons_succ, i64_w, i32_w]
    rfl
  refine pure_ (i := 2) (N := some 20) (v := ?_) (a' := ?_) #[true, false, true, false, false, false, false, false, false, false, false] rfl rfl (by kernel_rfl) (fun _ _ _ h => h) (Or.inl ⟨by rfl, ?_⟩) ?_ ?_
  rotate_left
  · intro w'
    go_simp
    with_reducible rfl
  rotate_left
  · simp only [Act.put, List.setIfInBounds_toArray, List.set_cons_zero, List.set_cons_succ, i64_w, i32_w]
    rfl
  refine pure_ (i := 4) (N := some 22) (v := ?_) (a' := ?_) #[true, false, true, false, true, false, false, false, false, false, false] rfl rfl (by kernel_rfl) (fun _ _ _ h => h) (Or.inl ⟨by rfl, ?_⟩) ?_ ?_
  rotate_left
  · intro w'
    go_simp
    with_reducible rfl
  rotate_left
  · simp only [Act.put, List.setIfInBounds_toArray, List.set_cons_zero, List.set_cons_succ, i64_w, i32_w]
    rfl
  refine pure_ (i := 5) (N := some 23) (v := ?_) (a' := ?_) #[true, false, true, false, true, true, false, false, false, false, false] rfl rfl (by kernel_rfl) (fun _ _ _ h => h) (Or.inl ⟨by rfl, ?_⟩) ?_ ?_
  rotate_left
  · intro w'
    go_simp
    with_reducible rfl
  rotate_left
  · simp only [Act.put, List.setIfInBounds_toArray, List.set_cons_zero, List.set_cons_succ, i64_w, i32_w]
    rfl
  refine pure_ (i := 7) (N := some 25) (v := ?_) (a' := ?_) #[true, false, true, false, true, true, false, true, false, false, false] rfl rfl (by kernel_rfl) (fun _ _ _ h => h) (Or.inl ⟨by rfl, ?_⟩) ?_ ?_
  rotate_left
  · intro w'
    go_simp
    with_reducible rfl
  rotate_left
  · simp only [Act.put, List.setIfInBounds_toArray, List.set_cons_zero, List.set_cons_succ, i64_w, i32_w]
    rfl
  refine pure_ (i := 10) (N := some 28) (v := ?_) (a' := ?_) #[true, false, true, false, true, true, false, true, false, false, true] rfl rfl (by kernel_rfl) (fun _ _ _ h => h) (Or.inl ⟨by rfl, ?_⟩) ?_ ?_
  rotate_left
  · intro w'
    go_simp
    with_reducible rfl
  rotate_left
  · simp only [Act.put, List.setIfInBounds_toArray, List.set_cons_zero, List.set_cons_succ, i64_w, i32_w]
    rfl
  refine take_ (i := 1) (N := some 19) (v := ?_) (a' := ?_) #[true, true, true, false, true, true, false, true, false, false, true] rfl rfl (by kernel_rfl) (fun _ _ _ h => h) (Or.inl ⟨by rfl, ?_⟩) hHeld ?_ ?_
  rotate_left
  · intro w' s0
    go_simp
    with_reducible rfl
  rotate_left
  · simp only [Act.put, List.setIfInBounds_toArray, List.set_cons_zero, List.set_cons_succ, i64_w, i32_w]
    rfl
  refine take_ (i := 3) (N := some 21) (v := ?_) (a' := ?_) #[true, true, true, true, true, true, false, true, false, false, true] rfl rfl (by kernel_rfl) (fun _ _ _ h => h) (Or.inl ⟨by rfl, ?_⟩) hHeld ?_ ?_
  rotate_left
  · intro w' s0
    go_simp
    with_reducible rfl
  rotate_left
  · simp only [Act.put, List.setIfInBounds_toArray, List.set_cons_zero, List.set_cons_succ, i64_w, i32_w]
    rfl
  refine one_ (i := 6) (N := some 24) #[true, true, true, true, true, true, true, true, false, false, true] rfl rfl (by kernel_rfl) (by decide) (fun K hK => ?_)
  refine goes_ Try.func23 (by kernel_rfl) rfl #[.int .i64 n, .slice lA l.length lc, .func (.func 19) #[] #[.pointer (some ⟨mb, 0, none⟩)]] (by rfl) rfl rfl (by simp only [List.map_toArray, List.map_cons, List.map_nil]; rfl) ?_
  with_reducible refine (HS1.out).mono ?_
  rintro e wa ⟨ga, l1, rfl, hO1, hS1, hGa⟩
  have HO1 := Lib.hid hO1
  have HSO1 := Lib.hid hS1
  have HGa := Lib.hid hGa
  clear hO1 hS1 hGa
  have HS2 := Lib.hid (HSS.out wa ga l1 HO1.out HSO1.out HGa.out)
  have ma := HMA.out wa HGa.out
  refine ⟨_, rfl, ?_⟩
  refine hK.out _ _ (ma) (fun hHeld => ?_)
  clear hK K
  refine norm_ (a' := ?_) ?_ ?_
  rotate_left
  · show Act.put _ (some 24) _ = _
    simp only [Act.put, List.setIfInBounds_toArray, List.set_cons_zero, List.set_cons_succ, i64_w, i32_w]
    rfl
  refine one_ (i := 8) (N := some 26) #[true, true, true, true, true, true, true, true, true, false, true] rfl rfl (by kernel_rfl) (by decide) (fun K hK => ?_)
  refine goes_ Try.func23 (by kernel_rfl) rfl #[.int .i64 n, .slice (some ⟨ga, 0, none⟩) l.length l.length, .func (.func 20) #[] #[.pointer (some ⟨mb, 0, none⟩)]] (by rfl) rfl rfl (by simp only [List.map_toArray, List.map_cons, List.map_nil]; rfl) ?_
  with_reducible refine (HS2.out).mono ?_
  rintro e wb ⟨gb, l2, rfl, hO2, hS2, hGb⟩
  have HO2 := Lib.hid hO2
  have HSO2 := Lib.hid hS2
  have HGb := Lib.hid hGb
  clear hO2 hS2 hGb
  have mb2 := HMB.out wa wb HGa.out HGb.out
  refine ⟨_, rfl, ?_⟩
  refine hK.out _ _ (mb2) (fun hHeld => ?_)
  clear hK K
  refine norm_ (a' := ?_) ?_ ?_
  rotate_left
  · show Act.put _ (some 26) _ = _
    simp only [Act.put, List.setIfInBounds_toArray, List.set_cons_zero, List.set_cons_succ, i64_w, i32_w]
    rfl
  refine pure_ (i := 9) (N := some 27) (v := ?_) (a' := ?_) #[true, true, true, true, true, true, true, true, true, true, true] rfl rfl (by kernel_rfl) (fun _ _ _ h => h) (Or.inl ⟨by rfl, ?_⟩) ?_ ?_
  rotate_left
  · intro w'
    go_simp
    with_reducible rfl
  rotate_left
  · simp only [Act.put, List.setIfInBounds_toArray, List.set_cons_zero, List.set_cons_succ, i64_w, i32_w]
    rfl
  refine done_ (by kernel_rfl) ?_
  have HL2 : Hid (l2.length = l.length) := Lib.hid (HSO2.out.len.trans HSO1.out.len)
  have hGab : Below W1.heap.size W1 wb := (((Below.refl W1.heap.size W1).drew).trans HGa.out).trans (HGb.out.mono HGa.out.size)
  have HW2 : Hid (Below W1.heap.size W1 wb) := Lib.hid hGab
  have hsz2 := hGab.size
  have hga := HGa.out.size
  have hgb := HO2.out.lt
  have hwa : W1.heap.size ≤ wa.heap.size := hga
  have HIN : Hid (∀ k ∈ l2, k ∈ l) := Lib.hid (fun k hk => ((HSO1.out.iff (n := n) (fun k hk => (HEN.out k hk).2) k).1 ((HSO2.out.iff (n := n) (fun k hk => (HEN.out k ((HSO1.out.iff (n := n) (fun k hk => (HEN.out k hk).2) k).1 hk)).1) k).1 hk)))
  have HS0 : Hid (LayS wb wb bg sb n (.slice none 0 0) (rowF (n + 1) (cn1 (twA A) l2 0)) ((l2.take 0).map fun k => (⟨frA A k, wtA A k, k⟩ : S55))) := Lib.hid (by
    have e0 : rowF (n + 1) (cn1 (twA A) l2 0) = List.replicate (n + 1) 0 := by
      rw [rowF_zero]
      exact rowF_ext (fun j _ => by unfold cn1; simp [cntE])
    rw [e0]
    exact ⟨(hGab.block _ hsl).trans HSB.out, HBG.out.below hGab, Kd.R_nil _ _ _ _ _, Only.refl _ _, by omega, by omega, by omega⟩)
  have HBL : Hid (∀ W, Only wb W (fun k => k = bg ∨ k = sb) → Below w.heap.size w W) := Lib.hid (fun W o => (HGW.out.trans (hGab.mono HGW.out.size)).trans (o.below (by have := HGW.out.size; omega) (fun k hk => by omega)))
  have HRB : Hid (∀ W, Only wb W (fun k => k = bg ∨ k = sb) → W.heap[w.heap.size + 1]? = some (.cells #[.slice none 0 0, .slice none 0 0] 61 (0, 0)) ∧ W.heap[w.heap.size]? = some (.cells #[.int .i64 n, .slice Aa A.length ca] 27 (0, 0)) ∧ OwnI W wa.heap.size gb l.length l2) := Lib.hid (fun W o =>
    ⟨(o.block _ (by omega) (by omega)).trans ((hGab.block _ (by omega)).trans HRS'.out), (o.block _ (by omega) (by omega)).trans ((hGab.block _ (by omega)).trans HM2'.out), HO2.out.only o (by omega)⟩)
  have HSO1' := HSO1
  clear m0 ml mb2 hHeld HMA HMB HSS HS1 HS2 ma hGab hga hwa HO1 HO2 HSB HBG HB12 HM2' HRS' HG0 HGa HGb
  obtain ⟨m, hm⟩ : ∃ m, l.length = m := ⟨_, rfl⟩
  have HML := Lib.hid hm
  rw [hm] at HRB HL2 HLEN ⊢
  have hm9 : m ≤ 1000 := HLEN.out.1
  clear hm
  go_wp2_with fail
  go_loopw [28] (fun v28 wr => ∃ (i : Nat) (ev : Value), v28 = .int .i64 i ∧ i ≤ m ∧ Hid (LayS wb wr bg sb n ev (rowF (n + 1) (cn1 (twA A) l2 i)) ((l2.take i).map fun k => (⟨frA A k, wtA A k, k⟩ : S55)))) (fun v28 _ => m - (intOf v28).toNat)
  case atStart => exact ⟨0, _, rfl, by omega, HS0⟩
  case round =>
    clear HS0
    obtain ⟨i, ev, rfl, hi, HS⟩ := hrel
    by_cases hlt : i < m
    · have HGL := Lib.hid (rd_getL (d := l2) (b := i) (by have := HL2.out; omega))
      have HKM : Hid (rd l2 (i : Int) ∈ l2) := Lib.hid (by rw [HGL.out]; exact List.getElem_mem _)
      obtain ⟨kn, hkn⟩ := Int.eq_ofNat_of_zero_le (HLA.out _ (HIN.out _ HKM.out)).1
      have hkm := HKM.out
      rw [hkn] at hkm
      have hkb := HLA.out _ (HIN.out _ hkm)
      have hkw := HW.out _ hkb.1 hkb.2
      have hk1 := (HEN.out _ (HIN.out _ hkm)).1
      obtain ⟨x1, hx1⟩ := Int.eq_ofNat_of_zero_le hk1.1
      have hx1n : x1 < n := by omega
      have HST := Lib.hid (cn1_step (twA A) l2 i (by have := HL2.out; omega) x1 (by rw [hkn]; exact hx1) (n + 1))
      have HTK : Hid ((l2.take (i + 1)).map (fun k => (⟨frA A k, wtA A k, k⟩ : S55)) = (l2.take i).map (fun k => (⟨frA A k, wtA A k, k⟩ : S55)) ++ [⟨frA A kn, wtA A kn, kn⟩]) := Lib.hid (by
        rw [List.take_succ_eq_append_getElem (by have := HL2.out; omega), List.map_append, ← hkn, HGL.out]
        rfl)
      have HBW := Lib.hid (HBL.out wr HS.out.rest)
      have HR := Lib.hid (HRB.out wr HS.out.rest)
      obtain ⟨ad, hA, _, _, r2⟩ := at_T42 (Kd.C_below HC.out HBW.out) (kn : Int) hkb.1 hkb.2
      have hwt : wtA A (kn : Int) = (rd_T42 A (kn : Int)).f2 := rfl
      rw [← hwt] at r2
      have HC5 := Lib.hid (from_walk wr.drew mb n A (HM.out.below HBW.out.drew) _ hkb.1 hkb.2)
      have HC6' := Lib.hid (fun (W : World) (g : Below w.heap.size w W) => to_walk W mb n A (HM.out.below g) _ hkb.1 hkb.2)
      obtain ⟨q0, qf, ql⟩ := HR.out.2.2.facts i hlt
      rw [hkn] at q0
      have hsmall : ((((l2.take i).map fun k => (⟨frA A k, wtA A k, k⟩ : S55))).length + 1) * 24 ≤ 140737488355328 := by
        rw [List.length_map, List.length_take]
        have := HLEN.out
        omega
      rw [hx1] at HC6'
      generalize frA A (kn : Int) = x2 at *
      generalize wtA A (kn : Int) = kw at *
      simp only [Int.toNat_natCast] at r2
      have hk9 : (kn : Int) < (A.length : Int) := hkb.2
      have hk8 : (0 : Int) ≤ (kn : Int) := Int.natCast_nonneg _
      generalize hEL : ((l2.take i).map fun k => (⟨frA A k, wtA A k, k⟩ : S55)) = EL at *
      have hi0' : (0 : Int) ≤ (i : Int) := Int.natCast_nonneg _
      have hi1 : (i : Int) < (m : Int) := by omega
      subst hA
      have c5 : wr.cell? ⟨sb, 1, none⟩ = some ev ∧ wr.cell? ⟨w.heap.size, 1, none⟩ = some (.slice (some ad) A.length ca) ∧ wr.cell? ⟨(ad.add (kn * 3)).block, (ad.add (kn * 3)).off + 2, none⟩ = some (.int .i64 kw) := ⟨(blk_cell HS.out.s 1).trans rfl, (blk_cell HR.out.2.1 1).trans rfl, r2⟩
      clear hkb hk1 hx1 hwt hkw r2 hEL hkn hkm
      go_upto_region 5 with fail
      clear q0 qf ql
      have HLD := Lib.hid (HS.out.below ((Below.refl wr.heap.size wr).drew))
      have hc1 := World.block_lt_of_cell? wr _ c5.1
      have hc2 := World.block_lt_of_cell? wr _ c5.2.1
      have hc3 := World.block_lt_of_cell? wr _ c5.2.2
      have hB5 : Below wr.drew.heap.size wr.drew (wr.drew.alloc (.cells #[.int .i64 x2, .int .i64 kw, .int .i64 kn] 55)) := (Below.refl _ _).alloc (Nat.le_refl _) _
      have d5 : (wr.drew.alloc (.cells #[.int .i64 x2, .int .i64 kw, .int .i64 kn] 55)).cell? ⟨sb, 1, none⟩ = some ev ∧ (wr.drew.alloc (.cells #[.int .i64 x2, .int .i64 kw, .int .i64 kn] 55)).cell? ⟨w.heap.size, 1, none⟩ = some (.slice (some ad) A.length ca) ∧ (wr.drew.alloc (.cells #[.int .i64 x2, .int .i64 kw, .int .i64 kn] 55)).cell? ⟨(ad.add (kn * 3)).block, (ad.add (kn * 3)).off + 2, none⟩ = some (.int .i64 kw) :=
        ⟨(hB5.cell (p := ⟨sb, 1, none⟩) hc1).trans c5.1, (hB5.cell (p := ⟨w.heap.size, 1, none⟩) hc2).trans c5.2.1, (hB5.cell (p := ⟨(ad.add (kn * 3)).block, (ad.add (kn * 3)).off + 2, none⟩) hc3).trans c5.2.2⟩
      have HEV : Hid (∀ w9 : World, wr.drew.grownBy w9 ev.ownBlock → w9.cell? ⟨sb, 1, none⟩ = some ev) := Lib.hid (fun w9 g => (blk_cell ((g.block _ (blk_lt HLD.out.s) (fun e => by have := (HLD.out.own sb e.symm).1; have := HLD.out.sl; omega)).trans HLD.out.s) 1).trans rfl)
      have HEVF : Hid (∀ w9 : World, wr.drew.grownBy w9 ev.ownBlock → w9.frozen? ⟨sb, 1, none⟩ = false) := Lib.hid (fun w9 g => blk_frozen ((g.block _ (blk_lt HLD.out.s) (fun e => by have := (HLD.out.own sb e.symm).1; have := HLD.out.sl; omega)).trans HLD.out.s) 1)
      have HBASE : Hid (wb.heap.size ≤ wr.drew.heap.size) := Lib.hid HLD.out.rest.size
      refine start_ (n := 17) (S := fun w' => w'.cell? ⟨sb, 1, none⟩ = some ev ∧ w'.cell? ⟨w.heap.size, 1, none⟩ = some (.slice (some ad) A.length ca) ∧ w'.cell? ⟨(ad.add (kn * 3)).block, (ad.add (kn * 3)).off + 2, none⟩ = some (.int .i64 kw)) (ds := [14, 16]) #[false, false, false, false, false, false, false, false, false, false, false, false, false, false, false, false, false] (by kernel_rfl) rfl rfl ⟨c5.1, c5.2.1, c5.2.2⟩ (fun hHeld => ?_)
      refine pure_ (i := 0) (N := some 32) (v := ?_) (a' := ?_) #[true, false, false, false, false, false, false, false, false, false, false, false, false, false, false, false, false] rfl rfl (by kernel_rfl) (fun _ _ _ h => h) (Or.inl ⟨by rfl, ?_⟩) ?_ ?_
      rotate_left
      · intro w'
        go_simp
        with_reducible rfl
      rotate_left
      · simp only [Act.put, List.setIfInBounds_toArray, List.set_cons_zero, List.set_cons_succ, i64_w, i32_w]
        rfl
      refine pure_ (i := 2) (N := some 34) (v := ?_) (a' := ?_) #[true, false, true, false, false, false, false, false, false, false, false, false, false, false, false, false, false] rfl rfl (by kernel_rfl) (fun _ _ _ h => h) (Or.inl ⟨by rfl, ?_⟩) ?_ ?_
      rotate_left
      · intro w'
        go_simp
        with_reducible rfl
      rotate_left
      · simp only [Act.put, List.setIfInBounds_toArray, List.set_cons_zero, List.set_cons_succ, i64_w, i32_w]
        rfl
      refine pure_ (i := 3) (N := some 35) (v := ?_) (a' := ?_) #[true, false, true, true, false, false, false, false, false, false, false, false, false, false, false, false, false] rfl rfl (by kernel_rfl) (fun _ _ _ h => h) (Or.inl ⟨by rfl, ?_⟩) ?_ ?_
      rotate_left
      · intro w'
        go_simp
        with_reducible rfl
      rotate_left
      · simp only [Act.put, List.setIfInBounds_toArray, List.set_cons_zero, List.set_cons_succ, i64_w, i32_w]
        rfl
      refine pure_ (i := 5) (N := some 37) (v := ?_) (a' := ?_) #[true, false, true, true, false, true, false, false, false, false, false, false, false, false, false, false, false] rfl rfl (by kernel_rfl) (fun _ _ _ h => h) (Or.inl ⟨by rfl, ?_⟩) ?_ ?_
      rotate_left
      · intro w'
        go_simp
        with_reducible rfl
      rotate_left
      · simp only [Act.put, List.setIfInBounds_toArray, List.set_cons_zero, List.set_cons_succ, i64_w, i32_w]
        rfl
      refine pure_ (i := 7) (N := some 39) (v := ?_) (a' := ?_) #[true, false, true, true, false, true, false, true, false, false, false, false, false, false, false, false, false] rfl rfl (by kernel_rfl) (fun _ _ _ h => h) (Or.inl ⟨by rfl, ?_⟩) ?_ ?_
      rotate_left
      · intro w'
        go_simp
        with_reducible rfl
      rotate_left
      · simp only [Act.put, List.setIfInBounds_toArray, List.set_cons_zero, List.set_cons_succ, i64_w, i32_w]
        rfl
      refine pure_ (i := 11) (N := some 43) (v := ?_) (a' := ?_) #[true, false, true, true, false, true, false, true, false, false, false, true, false, false, false, false, false] rfl rfl (by kernel_rfl) (fun _ _ _ h => h) (Or.inl ⟨by rfl, ?_⟩) ?_ ?_
      rotate_left
      · intro w'
        go_simp
        with_reducible rfl
      rotate_left
      · simp only [Act.put, List.setIfInBounds_toArray, List.set_cons_zero, List.set_cons_succ, i64_w, i32_w]
        rfl
      refine take_ (i := 1) (N := some 33) (v := ?_) (a' := ?_) #[true, true, true, true, false, true, false, true, false, false, false, true, false, false, false, false, false] rfl rfl (by kernel_rfl) (fun _ _ _ h => h) (Or.inl ⟨by rfl, ?_⟩) hHeld ?_ ?_
      rotate_left
      · rintro w' ⟨s0, s1, s2⟩
        go_simp
        with_reducible rfl
      rotate_left
      · simp only [Act.put, List.setIfInBounds_toArray, List.set_cons_zero, List.set_cons_succ, i64_w, i32_w]
        rfl
      refine take_ (i := 6) (N := some 38) (v := ?_) (a' := ?_) #[true, true, true, true, false, true, true, true, false, false, false, true, false, false, false, false, false] rfl rfl (by kernel_rfl) (fun _ _ _ h => h) (Or.inl ⟨by rfl, ?_⟩) hHeld ?_ ?_
      rotate_left
      · rintro w' ⟨s0, s1, s2⟩
        go_simp
        with_reducible rfl
      rotate_left
      · simp only [Act.put, List.setIfInBounds_toArray, List.set_cons_zero, List.set_cons_succ, i64_w, i32_w]
        rfl
      refine pure_ (i := 8) (N := some 40) (v := ?_) (a' := ?_) #[true, true, true, true, false, true, true, true, true, false, false, true, false, false, false, false, false] rfl rfl (by kernel_rfl) (fun _ _ _ h => h) (Or.inl ⟨by rfl, ?_⟩) ?_ ?_
      rotate_left
      · intro w'
        go_simp
        with_reducible rfl
      rotate_left
      · simp only [Act.put, List.setIfInBounds_toArray, List.set_cons_zero, List.set_cons_succ, i64_w, i32_w]
        rfl
      refine pure_ (i := 9) (N := some 41) (v := ?_) (a' := ?_) #[true, true, true, true, false, true, true, true, true, true, false, true, false, false, false, false, false] rfl rfl (by kernel_rfl) (fun _ _ _ h => h) (Or.inl ⟨by rfl, ?_⟩) ?_ ?_
      rotate_left
      · intro w'
        go_simp
        with_reducible rfl
      rotate_left
      · simp only [Act.put, List.setIfInBounds_toArray, List.set_cons_zero, List.set_cons_succ, i64_w, i32_w]
        rfl
      refine take_ (i := 10) (N := some 42) (v := ?_) (a' := ?_) #[true, true, true, true, false, true, true, true, true, true, true, true, false, false, false, false, false] rfl rfl (by kernel_rfl) (fun _ _ _ h => h) (Or.inl ⟨by rfl, ?_⟩) hHeld ?_ ?_
      rotate_left
      · rintro w' ⟨s0, s1, s2⟩
        go_simp
        with_reducible rfl
      rotate_left
      · simp only [Act.put, List.setIfInBounds_toArray, List.set_cons_zero, List.set_cons_succ, i64_w, i32_w]
        rfl
      refine one_ (i := 4) (N := some 36) #[true, true, true, true, true, true, true, true, true, true, true, true, false, false, false, false, false] rfl rfl (by kernel_rfl) (by decide) (fun K hK => ?_)
      refine goesC_ Try.func19 (by kernel_rfl) rfl (.tmp 34) #[.pointer (some ⟨mb, 0, none⟩)] #[.int .i64 kn, .pointer (some ⟨mb, 0, none⟩)] (by rfl) rfl rfl (by rfl) (by simp only [List.map_toArray, List.map_cons, List.map_nil]; rfl) ?_
      with_reducible refine (HC5.out).mono ?_
      rintro e w3 ⟨rfl, rfl⟩
      refine ⟨_, rfl, ?_⟩
      refine hK.out _ _ ⟨c5.1, c5.2.1, c5.2.2⟩ (fun hHeld => ?_)
      clear hK K
      refine norm_ (a' := ?_) ?_ ?_
      rotate_left
      · show Act.put _ (some 36) _ = _
        simp only [Act.put, List.setIfInBounds_toArray, List.set_cons_zero, List.set_cons_succ, i64_w, i32_w]
        rfl
      refine pure_ (i := 12) (N := some 44) (v := ?_) (a' := ?_) #[true, true, true, true, true, true, true, true, true, true, true, true, true, false, false, false, false] rfl rfl (by kernel_rfl) (fun _ _ _ h => h) (Or.inl ⟨by rfl, ?_⟩) ?_ ?_
      rotate_left
      · intro w'
        go_simp
        with_reducible rfl
      rotate_left
      · simp only [Act.put, List.setIfInBounds_toArray, List.set_cons_zero, List.set_cons_succ, i64_w, i32_w]
        rfl
      refine one_ (i := 13) (N := some 45) #[true, true, true, true, true, true, true, true, true, true, true, true, true, true, false, false, false] rfl rfl (by kernel_rfl) (by decide) (fun K hK => ?_)
      refine value_ (w1 := ?_) (v := ?_) (by rfl) rfl ?_ ?_
      rotate_left 2
      · go_simp
        constructor
        · rfl
        · rfl
      refine hK.out _ _ ⟨d5.1, d5.2.1, d5.2.2⟩ (fun hHeld => ?_)
      clear hK K
      refine norm_ (a' := ?_) ?_ ?_
      rotate_left
      · show Act.put _ (some 45) _ = _
        simp only [Act.put, List.setIfInBounds_toArray, List.set_cons_zero, List.set_cons_succ, i64_w, i32_w]
        rfl
      refine last_ (i := 14) (N := some 46) #[true, true, true, true, true, true, true, true, true, true, true, true, true, true, true, false, false] rfl rfl (by kernel_rfl) (by decide) (fun K hK => ?_)
      refine Kd.R_append_step k55 (w0 := wr.drew) (W := wr.drew) wb.heap.size (by rfl) (.tmp 33) (.tmp 45) 52 55 (.agg #[(.int .i64 0), (.int .i64 0), (.int .i64 0)]) 24 rfl Try.underlying52 info55 rfl (by decide) (by omega) ev EL (⟨x2, kw, (kn : Int)⟩ : S55) [.int .i64 x2, .int .i64 kw, .int .i64 kn] (fun _ => True) (fun _ => False) rfl rfl (k55_mkM _ _ _ (⟨x2, kw, (kn : Int)⟩ : S55)) (fun _ h => h.elim) (fun _ _ => trivial) HLD.out.edg (Below.refl _ _) HBASE.out hsmall ?_
      intro v9 w9 hR9 hB9 hG9 _
      obtain ⟨Y9, z9, hv9⟩ := Kd.R_slice hR9
      generalize (EL ++ [(⟨x2, kw, (kn : Int)⟩ : S55)]).length = y9 at hv9
      subst hv9
      have HL9 := Lib.hid (HLD.out.app hR9 hG9)
      have e5 := HEV.out w9 hG9
      have f5 := HEVF.out w9 hG9
      clear hR9 hB9 hG9
      refine hK.out _ _ ?_
      clear hK K
      refine norm_ (a' := ?_) ?_ ?_
      rotate_left
      · show Act.put _ (some 46) _ = _
        simp only [Act.put, List.setIfInBounds_toArray, List.set_cons_zero, List.set_cons_succ, i64_w, i32_w]
        rfl
      refine pure_ (i := 15) (N := some 47) (v := ?_) (a' := ?_) #[true, true, true, true, true, true, true, true, true, true, true, true, true, true, true, true, false] rfl rfl (by kernel_rfl) (fun _ _ _ h => h) (Or.inl ⟨by rfl, ?_⟩) ?_ ?_
      rotate_left
      · intro w'
        go_simp
        with_reducible rfl
      rotate_left
      · simp only [Act.put, List.setIfInBounds_toArray, List.set_cons_zero, List.set_cons_succ, i64_w, i32_w]
        rfl
      refine last_ (i := 16) (N := none) #[true, true, true, true, true, true, true, true, true, true, true, true, true, true, true, true, true] rfl rfl (by kernel_rfl) (by decide) (fun K hK => ?_)
      refine skip_ (w1 := ?_) (by rfl) rfl ?_ ?_
      rotate_left
      · go_simp
        rfl
      refine hK.out _ _ ?_
      clear hK K
      refine done_ (by kernel_rfl) ?_
      have HL6 := HL9
      rw [← HTK.out] at HL6
      generalize w9.setCell ⟨sb, 1, none⟩ (.slice Y9 y9 z9) = W6 at *
      have HBW6 := Lib.hid (HBL.out W6 HL6.out.rest)
      have HC6 := Lib.hid (HC6'.out W6.drew HBW6.out.drew)
      obtain ⟨b0, bf, bl6⟩ := HL6.out.beg.facts (x1 + 1) (by omega)
      rw [rd_rowF _ (by omega)] at b0
      have hcb : 0 ≤ cn1 (twA A) l2 i (x1 + 1) ∧ cn1 (twA A) l2 i (x1 + 1) ≤ 1000 := by
        unfold cn1
        rw [if_neg (by omega)]
        have h1 := cntE_len (twA A) (l2.take i) (x1 + 1 - 1)
        rw [List.length_take] at h1
        have := HLEN.out
        omega
      generalize cn1 (twA A) l2 i (x1 + 1) = c at *
      obtain ⟨hcb0, hcb1⟩ := hcb
      have hwv : IntKind.i64.wrap ((x1 : Int) + 1) = (x1 : Int) + 1 := i64w (by omega) (by omega) (by omega)
      have hwc : IntKind.i64.wrap (c + 1) = c + 1 := i64w (by omega) (by omega) (by omega)
      have c6 : W6.cell? ⟨sb, 0, none⟩ = some (.slice (some ⟨bg, 0, none⟩) (n + 1) (n + 1)) ∧ W6.cell? ⟨bg, x1 + 1, none⟩ = some (.int .i64 c) := ⟨(blk_cell HL6.out.s 0).trans rfl, b0⟩
      clear c5 d5 e5 f5 HEVF hB5 hc1 hc2 hc3 HLD HEV HBASE HL9 HTK HC5 HC6' hsmall b0
      have hx0 : (0 : Int) ≤ (x1 : Int) + 1 := by omega
      have hx9 : (x1 : Int) + 1 < (n : Int) + 1 := by omega
      go_upto_region 6 with fail
      refine start_ (n := 11) (S := fun w' => w'.cell? ⟨sb, 0, none⟩ = some (.slice (some ⟨bg, 0, none⟩) (n + 1) (n + 1)) ∧ w'.cell? ⟨bg, x1 + 1, none⟩ = some (.int .i64 c)) (ds := [10]) #[false, false, false, false, false, false, false, false, false, false, false] (by kernel_rfl) rfl rfl ⟨c6.1, c6.2⟩ (fun hHeld => ?_)
      refine pure_ (i := 0) (N := some 48) (v := ?_) (a' := ?_) #[true, false, false, false, false, false, false, false, false, false, false] rfl rfl (by kernel_rfl) (fun _ _ _ h => h) (Or.inl ⟨by rfl, ?_⟩) ?_ ?_
      rotate_left
      · intro w'
        go_simp
        with_reducible rfl
      rotate_left
      · simp only [Act.put, List.setIfInBounds_toArray, List.set_cons_zero, List.set_cons_succ, i64_w, i32_w]
        rfl
      refine pure_ (i := 2) (N := some 50) (v := ?_) (a' := ?_) #[true, false, true, false, false, false, false, false, false, false, false] rfl rfl (by kernel_rfl) (fun _ _ _ h => h) (Or.inl ⟨by rfl, ?_⟩) ?_ ?_
      rotate_left
      · intro w'
        go_simp
        with_reducible rfl
      rotate_left
      · simp only [Act.put, List.setIfInBounds_toArray, List.set_cons_zero, List.set_cons_succ, i64_w, i32_w]
        rfl
      refine pure_ (i := 3) (N := some 51) (v := ?_) (a' := ?_) #[true, false, true, true, false, false, false, false, false, false, false] rfl rfl (by kernel_rfl) (fun _ _ _ h => h) (Or.inl ⟨by rfl, ?_⟩) ?_ ?_
      rotate_left
      · intro w'
        go_simp
        with_reducible rfl
      rotate_left
      · simp only [Act.put, List.setIfInBounds_toArray, List.set_cons_zero, List.set_cons_succ, i64_w, i32_w]
        rfl
      refine take_ (i := 1) (N := some 49) (v := ?_) (a' := ?_) #[true, true, true, true, false, false, false, false, false, false, false] rfl rfl (by kernel_rfl) (fun _ _ _ h => h) (Or.inl ⟨by rfl, ?_⟩) hHeld ?_ ?_
      rotate_left
      · rintro w' ⟨s0, s1⟩
        go_simp
        with_reducible rfl
      rotate_left
      · simp only [Act.put, List.setIfInBounds_toArray, List.set_cons_zero, List.set_cons_succ, i64_w, i32_w]
        rfl
      refine one_ (i := 4) (N := some 52) #[true, true, true, true, true, false, false, false, false, false, false] rfl rfl (by kernel_rfl) (by decide) (fun K hK => ?_)
      refine goesC_ Try.func20 (by kernel_rfl) rfl (.tmp 50) #[.pointer (some ⟨mb, 0, none⟩)] #[.int .i64 kn, .pointer (some ⟨mb, 0, none⟩)] (by rfl) rfl rfl (by rfl) (by simp only [List.map_toArray, List.map_cons, List.map_nil]; rfl) ?_
      with_reducible refine (HC6.out).mono ?_
      rintro e w3 ⟨rfl, rfl⟩
      refine ⟨_, rfl, ?_⟩
      refine hK.out _ _ ⟨c6.1, c6.2⟩ (fun hHeld => ?_)
      clear hK K
      refine norm_ (a' := ?_) ?_ ?_
      rotate_left
      · show Act.put _ (some 52) _ = _
        simp only [Act.put, List.setIfInBounds_toArray, List.set_cons_zero, List.set_cons_succ, i64_w, i32_w]
        rfl
      refine pure_ (i := 5) (N := some 53) (v := ?_) (a' := ?_) #[true, true, true, true, true, true, false, false, false, false, false] rfl rfl (by kernel_rfl) (fun _ _ _ h => h) (Or.inl ⟨by rfl, ?_⟩) ?_ ?_
      rotate_left
      · intro w'
        go_simp
        with_reducible rfl
      rotate_left
      · simp only [Act.put, List.setIfInBounds_toArray, List.set_cons_zero, List.set_cons_succ, i64_w, i32_w]
        rfl
      refine pure_ (i := 6) (N := some 54) (v := ?_) (a' := ?_) #[true, true, true, true, true, true, true, false, false, false, false] rfl rfl (by kernel_rfl) (fun _ _ _ h => h) (Or.inl ⟨by rfl, ?_⟩) ?_ ?_
      rotate_left
      · intro w'
        go_simp
        with_reducible rfl
      rotate_left
      · simp only [Act.put, List.setIfInBounds_toArray, List.set_cons_zero, List.set_cons_succ, i64_w, i32_w]
        rfl
      refine take_ (i := 7) (N := some 55) (v := ?_) (a' := ?_) #[true, true, true, true, true, true, true, true, false, false, false] rfl rfl (by kernel_rfl) (fun _ _ _ h => h) (Or.inl ⟨by rfl, ?_⟩) hHeld ?_ ?_
      rotate_left
      · rintro w' ⟨s0, s1⟩
        go_simp
        with_reducible rfl
      rotate_left
      · simp only [Act.put, List.setIfInBounds_toArray, List.set_cons_zero, List.set_cons_succ, i64_w, i32_w]
        rfl
      refine pure_ (i := 8) (N := some 56) (v := ?_) (a' := ?_) #[true, true, true, true, true, true, true, true, true, false, false] rfl rfl (by kernel_rfl) (fun _ _ _ h => h) (Or.inl ⟨by rfl, ?_⟩) ?_ ?_
      rotate_left
      · intro w'
        go_simp
        with_reducible rfl
      rotate_left
      · simp only [Act.put, List.setIfInBounds_toArray, List.set_cons_zero, List.set_cons_succ, i64_w, i32_w]
        rfl
      refine pure_ (i := 9) (N := some 57) (v := ?_) (a' := ?_) #[true, true, true, true, true, true, true, true, true, true, false] rfl rfl (by kernel_rfl) (fun _ _ _ h => h) (Or.inl ⟨by rfl, ?_⟩) ?_ ?_
      rotate_left
      · intro w'
        go_simp
        with_reducible rfl
      rotate_left
      · simp only [Act.put, List.setIfInBounds_toArray, List.set_cons_zero, List.set_cons_succ, i64_w, i32_w]
        rfl
      refine last_ (i := 10) (N := none) #[true, true, true, true, true, true, true, true, true, true, true] rfl rfl (by kernel_rfl) (by decide) (fun K hK => ?_)
      refine skip_ (w1 := ?_) (by rfl) rfl ?_ ?_
      rotate_left
      · go_simp
        rfl
      refine hK.out _ _ ?_
      clear hK K
      refine done_ (by kernel_rfl) ?_
      go_wp2_with fail
      go_roundw
      case measure => simp [intOf]; omega
      case rel => exact ⟨i + 1, _, by go_num, by omega, Lib.hid (by rw [← HST.out]; exact (HL6.out.below ((Below.refl W6.heap.size W6).drew)).inc (x1 + 1) (c + 1))⟩
    · obtain rfl : i = m := by omega
      have HS2 : Hid (LayS wb wr bg sb n ev (rowF (n + 1) (cn2 (twA A) l2 0)) (l2.map fun k => (⟨frA A k, wtA A k, k⟩ : S55))) := Lib.hid (by
        have := HS.out
        rw [← HL2.out, cn1_full (twA A) l2 (fun k hk => (HEN.out k (HIN.out k hk)).1.1), List.take_length] at this
        exact this)
      have HMC := Lib.hid ((blk_cell (HRB.out wr HS.out.rest).2.1 0).trans rfl)
      have m0 : wr.cell? ⟨w.heap.size, 0, none⟩ = some (.int .i64 n) := HMC.out
      clear HS
      go_wp2_with fail
      go_loopw [61] (fun v61 wr => ∃ v : Nat, v61 = .int .i64 v ∧ v ≤ n ∧ Hid (LayS wb wr bg sb n ev (rowF (n + 1) (cn2 (twA A) l2 v)) (l2.map fun k => (⟨frA A k, wtA A k, k⟩ : S55)))) (fun v61 _ => n - (intOf v61).toNat)
      case atStart => exact ⟨0, rfl, by omega, HS2⟩
      case round =>
        clear HS2 m0 HMC
        obtain ⟨v, rfl, hv, HS⟩ := hrel
        by_cases hlt2 : v < n
        · obtain ⟨c0, f0, l0⟩ := HS.out.beg.facts (v + 1) (by omega)
          obtain ⟨c1, f1, _⟩ := HS.out.beg.facts v (by omega)
          rw [rd_rowF _ (by omega)] at c0 c1
          have s0 : wr.cell? ⟨sb, 0, none⟩ = some (.slice (some ⟨bg, 0, none⟩) (n + 1) (n + 1)) := (blk_cell HS.out.s 0).trans rfl
          have sl0 := blk_lt HS.out.s
          have HST := Lib.hid (cn2_step (twA A) l2 v (n + 1))
          have hb2 : ∀ j, 0 ≤ cn2 (twA A) l2 v j ∧ cn2 (twA A) l2 v j ≤ 1000 := fun j => by
            unfold cn2
            have h1 := cntE_len (twA A) l2 (j - 1)
            have h2 := cntB_le (twA A) l2 j
            have h3 := HL2.out
            have h4 := HLEN.out
            split <;> omega
          have hq0 := hb2 (v + 1)
          have hq1 := hb2 v
          generalize cn2 (twA A) l2 v (v + 1) = c at *
          generalize cn2 (twA A) l2 v v = d at *
          have hwv : IntKind.i64.wrap ((v : Int) + 1) = (v : Int) + 1 := i64w (by omega) (by omega) (by omega)
          have hwc : IntKind.i64.wrap (c + d) = c + d := i64w (by omega) (by omega) (by omega)
          have hi0' : (0 : Int) ≤ (v : Int) := Int.natCast_nonneg _
          have hi1 : (v : Int) < (n : Int) := by omega
          clear hb2 hq0 hq1
          go_wp2_with fail
          go_region
          all_goals (go_wp2_with fail)
          go_roundw
          case measure => simp [intOf]; omega
          case rel => exact ⟨v + 1, by go_num, by omega, Lib.hid (by rw [← HST.out]; exact (HS.out.inc (v + 1) (c + d)).below (Below.refl _ _).drew)⟩
        · obtain rfl : v = n := by omega
          obtain ⟨EA, ec, hev, hle, hEC⟩ := Kd.R_reads HS.out.edg
          rw [List.length_map] at hev hle hEC
          have HRW := Lib.hid (HRB.out wr HS.out.rest).1
          have HBW := Lib.hid (HBL.out wr HS.out.rest)
          have HBG : Hid (OwnI wr bg bg (v + 1) (rowF (v + 1) (cn3 (twA A) l2 0))) := Lib.hid (by rw [← cn2_full]; exact HS.out.beg)
          subst hev
          have HED := Lib.hid HS.out.edg
          have HLE := Lib.hid hle
          have s0 : wr.cell? ⟨sb, 0, none⟩ = some (.slice (some ⟨bg, 0, none⟩) (v + 1) (v + 1)) := (blk_cell HS.out.s 0).trans rfl
          have s1 : wr.cell? ⟨sb, 1, none⟩ = some (.slice EA l2.length ec) := (blk_cell HS.out.s 1).trans rfl
          have sl0 := blk_lt HS.out.s
          have r0 := (blk_cell HRW.out 0).trans rfl
          have r1 := (blk_cell HRW.out 1).trans rfl
          have rl := blk_lt HRW.out
          have rf : ∀ j, wr.frozen? ⟨w.heap.size + 1, j, none⟩ = false := fun j => blk_frozen HRW.out j
          clear hEC hle HS
          go_wp2_with fail
          have p0 := blk_put HRW.out 0 (.slice (some ⟨bg, 0, none⟩) (v + 1) (v + 1)) (cs' := #[.slice (some ⟨bg, 0, none⟩) (v + 1) (v + 1), .slice none 0 0]) rfl
          have p1 := blk_put p0 1 (.slice EA l2.length ec) (cs' := #[.slice (some ⟨bg, 0, none⟩) (v + 1) (v + 1), .slice EA l2.length ec]) rfl
          have hwb : w.heap.size ≤ wb.heap.size := by have := HGW.out.size; omega
          refine bodyPost_ret (results_cell_row rfl _ _ (w.heap.size + 1) 61 #[.slice (some ⟨bg, 0, none⟩) (v + 1) (v + 1), .slice EA l2.length ec] (0, 0) _ rfl p1 Try.underlying61 rfl (by kernel_rfl)) rfl ?_
          refine ⟨bg, l1, l2, EA, ec, rfl, ?_, HLE.out, ?_, HSO1'.out, HSO2.out, ?_⟩
          · exact HBG.out.only (((Only.refl wr (fun k => k = w.heap.size + 1)).cell (w.heap.size + 1) 0 _ rfl).cell (w.heap.size + 1) 1 _ rfl) (by omega)
          · have h1 := Kd.R_set (Kd.R_set HED.out HRW.out (by decide) 0 (.slice (some ⟨bg, 0, none⟩) (v + 1) (v + 1))) p0 (by decide) 1 (.slice EA l2.length ec)
            exact Kd.R_lower h1 hwb
          · exact (HBW.out.setCell (p := ⟨w.heap.size + 1, 0, none⟩) (by simp) _).setCell (p := ⟨w.heap.size + 1, 1, none⟩) (by simp) _
end Go.Proofs.Ytfppfdejjifhdaa.PAll
