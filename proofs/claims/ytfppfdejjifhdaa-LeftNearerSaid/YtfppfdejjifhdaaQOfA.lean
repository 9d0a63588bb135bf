import Derived.Test.YtfppfdejjifhdaaQHpF
namespace Go.Proofs.Ytfppfdejjifhdaa.PAll
open Go.RowKit Go.Proofs.YtfppfdejjifhdaaW.PrintWords Go.Proofs.YtfppfdejjifhdaaW.PrintLast Go.Proofs.YtfppfdejjifhdaaW.PrintMore
open Hp hiding Good
attribute [local go_sem] max2_int min2_int max_two min_two
set_option linter.unusedVariables false
set_option linter.unusedSimpArgs false

structure ArcOk (n : Nat) (a : S42) : Prop where
  f0 : 0 ≤ a.f0
  f1 : a.f0 < n
  t0 : 0 ≤ a.f1
  t1 : a.f1 < n
  w0 : 0 ≤ a.f2
  w1 : a.f2 ≤ 2147483648
structure MapOk (n : Nat) (A : List S42) : Prop where
  n0 : 1 ≤ n
  n1 : n ≤ 12
  few : A.length ≤ 40
  arcs : ∀ a ∈ A, ArcOk n a
theorem rd79_mem {A : List S42} {i : Nat} (h : i < A.length) : rd_T42 A (i : Int) ∈ A := by
  have e : rd_T42 A (i : Int) = A[i] := by simp [rd_T42, List.getD, h]
  rw [e]; exact List.getElem_mem _
theorem mem79 {A : List S42} {a : S42} (h : a ∈ A) : ∃ i : Nat, i < A.length ∧ rd_T42 A (i : Int) = a := by
  obtain ⟨i, hi, e⟩ := List.getElem_of_mem h
  exact ⟨i, hi, by simp [rd_T42, List.getD, hi, e]⟩
theorem w64n {i : Nat} (h : i < 1000000) : wrap64 ((i : Int) + 1) = ((i + 1 : Nat) : Int) := by unfold wrap64; omega

/-! ### the reference's part, Check, counts -/
def partP (x n : Int) : Int := if Int.tmod x n < 0 then Int.tmod x n + n else Int.tmod x n
theorem partP_ok (x n : Int) (h : 0 < n) : 0 ≤ partP x n ∧ partP x n < n := by
  have h1 : Int.tmod x n < n := Int.tmod_lt_of_pos x h
  have h2 : -n < Int.tmod x n := Int.lt_tmod_of_pos x h
  unfold partP
  split <;> omega
theorem part_walk (w : World) (x n : Int) (h : 0 < n) (hn : n ≤ 2147483649) : Calls Try.prog 33 #[.int .i64 x, .int .i64 n] w fun r w' => r = .returned (.int .i64 (partP x n)) ∧ w = w' := by
  have h1 : Int.tmod x n < n := Int.tmod_lt_of_pos x h
  have h2 : -n < Int.tmod x n := Int.lt_tmod_of_pos x h
  have z0 : (n == 0) = false := beq_eq_false_iff_ne.mpr (by omega)
  have z1 : (n != 0) = true := bne_iff_ne.mpr (by omega)
  by_cases c : Int.tmod x n < 0
  · have hp : partP x n = Int.tmod x n + n := if_pos c
    have hw : wrap64 (Int.tmod x n + n) = Int.tmod x n + n := by unfold wrap64; omega
    have c0 : decide (Int.tmod x n < 0) = true := decide_eq_true c
    rw [hp]
    clear hp c
    go_enter Try.func33, Try.ntmps33
    go_wp2
    go_ret
    exact ⟨rfl, rfl⟩
  · have hp : partP x n = Int.tmod x n := if_neg c
    have c0 : decide (Int.tmod x n < 0) = false := decide_eq_false c
    rw [hp]
    clear hp c
    go_enter Try.func33, Try.ntmps33
    go_wp2
    go_ret
    exact ⟨rfl, rfl⟩

/-! ### the reference's Of -/
theorem cellAllocG {w : World} {o : Obj} {a : Addr} {v : Value} (h : w.cell? a = some v) : (w.alloc o).cell? a = some v := by
  have hl := World.block_lt_of_cell? w a h
  exact ((Below.refl w.heap.size w).alloc (Nat.le_refl _) o).cell (p := a) hl |>.trans h
def ofS (n : Int) (a : S42) : S42 := ⟨partP a.f0 n, partP a.f1 n, partP a.f2 2147483649⟩
def ofL (n : Int) (l : List S42) : List S42 := (l.take 40).map (ofS n)
def ofN (a : Int) : Int := max 1 (min a 12)
theorem ofL_ok (a : Int) (l : List S42) : ∃ n : Nat, ofN a = n ∧ MapOk n (ofL (ofN a) l) := by
  have h1 : 1 ≤ ofN a := by unfold ofN; omega
  have h2 : ofN a ≤ 12 := by unfold ofN; omega
  obtain ⟨n, hn⟩ := Int.eq_ofNat_of_zero_le (show 0 ≤ ofN a by omega)
  rw [hn] at h1 h2 ⊢
  refine ⟨n, rfl, by omega, by omega, by unfold ofL; simp; omega, fun x hx => ?_⟩
  obtain ⟨y, _, rfl⟩ := List.mem_map.1 hx
  have p0 := partP_ok y.f0 n (by omega)
  have p1 := partP_ok y.f1 n (by omega)
  have p2 := partP_ok y.f2 2147483649 (by omega)
  exact ⟨p0.1, p0.2, p1.1, p1.2, p2.1, by have := p2.2; simp only [ofS]; omega⟩
theorem of_take (n : Int) (l : List S42) (i : Nat) (h : i < l.length) : (l.take (i + 1)).map (ofS n) = (l.take i).map (ofS n) ++ [ofS n (rd_T42 l (i : Int))] := by
  rw [List.take_succ_eq_append_getElem h, List.map_append]
  simp [rd_T42, List.getD, h]
structure OfR (w W : World) (n : Int) (vk : Value) (K : List S42) : Prop where
  zb : W.heap[w.heap.size]? = some (.cells #[.int .i64 0, .slice none 0 0] 27 (0, 0))
  mb : W.heap[w.heap.size + 1]? = some (.cells #[.int .i64 n, vk] 27 (0, 0))
  bel : Below w.heap.size w W
  rk : Kd.R k42 42 W w.heap.size (fun _ => True) vk K
theorem OfR.below {w W W' : World} {n : Int} {vk : Value} {K : List S42} (h : OfR w W n vk K) (b : Below W.heap.size W W') : OfR w W' n vk K :=
  ⟨(b.block _ (blk_lt h.zb)).trans h.zb, (b.block _ (blk_lt h.mb)).trans h.mb, h.bel.trans (b.mono h.bel.size), Kd.R_below h.rk b⟩
theorem OfR.app {w W w2 : World} {n : Int} {vk vk' : Value} {K K' : List S42} (h : OfR w W n vk K) (hg : W.grownBy w2 vk.ownBlock) (hR : Kd.R k42 42 w2 w.heap.size (fun _ => True) vk' K') (hB : Below w.heap.size w w2) : OfR w (w2.setCell ⟨w.heap.size + 1, 1, none⟩ vk') n vk' K' := by
  have hm := (hg.block _ (blk_lt h.mb) (Kd.R_ne h.rk h.mb (by decide))).trans h.mb
  have hz := (hg.block _ (blk_lt h.zb) (Kd.R_ne h.rk h.zb (by decide))).trans h.zb
  exact ⟨(Below.heap_setCell w2 ⟨w.heap.size + 1, 1, none⟩ _ _ (by simp)).trans hz, blk_put hm 1 vk' rfl, hB.setCell (p := ⟨w.heap.size + 1, 1, none⟩) (by simp) _, Kd.R_set hR hm (by decide) 1 _⟩

set_option maxRecDepth 100000 in
set_option maxHeartbeats 4000000 in
theorem of6_walk (w : World) (a0 : Int) (l : List S42) (Aa : Option Addr) (ca : Nat) (hC : Kd.C k42 w Aa l.length l) (hca : l.length ≤ ca) :
    Calls Try.prog 12 #[.int .i64 a0, .slice Aa l.length ca] w fun r w' => ∃ v, r = .returned (.agg #[.int .i64 (ofN a0), v]) ∧ Kd.R k42 42 w' w.heap.size (fun _ => True) v (ofL (ofN a0) l) ∧ Below w.heap.size w w' := by
  have hle := hC.2.1
  have HC := Lib.hid hC
  have hn1 : 1 ≤ ofN a0 := by unfold ofN; omega
  have hn2 : ofN a0 ≤ 12 := by unfold ofN; omega
  have HOF : Hid ((if 1 < if 12 < a0 then 12 else a0 then if 12 < a0 then 12 else a0 else 1) = ofN a0) := Lib.hid (by unfold ofN; split <;> split at * <;> omega)
  clear hC
  generalize ofN a0 = n at *
  have HG0 : Hid (Below w.heap.size w (w.alloc (.cells #[.int .i64 0, .slice none 0 0] 27))) := Lib.hid ((Below.refl _ _).alloc (Nat.le_refl _) _)
  obtain ⟨len, hlen⟩ : ∃ len, l.length = len := ⟨_, rfl⟩
  have HLEN := Lib.hid hlen
  rw [hlen] at HC hca hle ⊢
  clear hlen
  go_enter Try.func12, Try.ntmps12
  go_upto_region 3 with fail
  rw [HOF.out]
  clear HOF
  generalize (if 12 < a0 then 12 else a0) = q9 at *
  have HS : Hid (OfR w ((w.alloc (.cells #[.int .i64 0, .slice none 0 0] 27)).alloc (.cells #[.int .i64 n, .slice none 0 0] 27)) n (.slice none 0 0) []) := Lib.hid ⟨blk_alloc (blk_new w _) _, by have := blk_new (w.alloc (.cells #[.int .i64 0, .slice none 0 0] 27)) (.cells #[.int .i64 n, .slice none 0 0] 27); rw [World.size_alloc] at this; exact this, ((Below.refl _ _).alloc (Nat.le_refl _) _).alloc (by simp) _, Kd.R_nil _ _ _ _ _⟩
  generalize (w.alloc (.cells #[.int .i64 0, .slice none 0 0] 27)).alloc (.cells #[.int .i64 n, .slice none 0 0] 27) = W1 at *
  go_wp2_with fail
  go_loopw [6] (fun v6 wr => ∃ (i : Nat) (vk : Value), v6 = .int .i64 i ∧ i ≤ len ∧ i ≤ 40 ∧ Hid (OfR w wr n vk ((l.take i).map (ofS n)))) (fun v6 _ => len - (intOf v6).toNat)
  case atStart => exact ⟨0, _, rfl, by omega, by omega, HS⟩
  case round =>
    obtain ⟨i, vk, rfl, hi, h40, HN⟩ := hrel
    clear HS
    by_cases hlt : i < len ∧ i < 40
    · obtain ⟨hl1, hl2⟩ := hlt
      obtain ⟨ad, hA2, r0, r1, r2⟩ := at_T42 (Kd.C_below HC.out HN.out.bel) (i : Int) (by omega) (by omega)
      have HTK := Lib.hid (of_take n l i (by have := HLEN.out; omega))
      have hKl : ((l.take i).map (ofS n)).length ≤ 40 := by simp; omega
      simp only [Int.toNat_natCast] at r0 r1 r2
      generalize hE : rd_T42 l (i : Int) = e at *
      obtain ⟨a, b, x⟩ := e
      simp only at r0 r1 r2
      unfold ofS at HTK
      simp only at HTK
      generalize hKK : (l.take i).map (fun a => (⟨partP a.f0 n, partP a.f1 n, partP a.f2 2147483649⟩ : S42)) = acc at HTK
      have hKK' : (l.take i).map (ofS n) = acc := hKK
      rw [hKK'] at HN hKl
      have HTK' : Hid ((l.take (i + 1)).map (ofS n) = acc ++ [⟨partP a n, partP b n, partP x 2147483649⟩]) := HTK
      have hi0 : (0 : Int) ≤ (i : Int) := Int.natCast_nonneg _
      have hi1 : (i : Int) < (len : Int) := by omega
      have hi2 : (i : Int) < 40 := by omega
      have HP0 : Hid (∀ W, Calls Try.prog 33 #[.int .i64 a, .int .i64 n] W fun r w' => r = .returned (.int .i64 (partP a n)) ∧ W = w') := Lib.hid (fun W => part_walk W a n (by omega) (by omega))
      have HP1 : Hid (∀ W, Calls Try.prog 33 #[.int .i64 b, .int .i64 n] W fun r w' => r = .returned (.int .i64 (partP b n)) ∧ W = w') := Lib.hid (fun W => part_walk W b n (by omega) (by omega))
      have HP2 : Hid (∀ W, Calls Try.prog 33 #[.int .i64 x, .int .i64 2147483649] W fun r w' => r = .returned (.int .i64 (partP x 2147483649)) ∧ W = w') := Lib.hid (fun W => part_walk W x _ (by omega) (by omega))
      generalize partP a n = pa at *
      generalize partP b n = pb at *
      generalize partP x 2147483649 = px at *
      clear HTK hKK hKK' hE
      have HX6 := Lib.hid (blk_new wr (.cells #[.int .i64 a, .int .i64 b, .int .i64 x] 42))
      have HN6 := Lib.hid (HN.out.below ((Below.refl _ _).alloc (Nat.le_refl _) (.cells #[.int .i64 a, .int .i64 b, .int .i64 x] 42)))
      have HRL : Hid (∀ k, vk.ownBlock = some k → k < wr.heap.size) := Lib.hid (fun k hk => Kd.R_lt HN.out.rk k hk)
      subst hA2
      go_upto_region 7 with fail
      clear r0 r1 r2
      generalize wr.alloc (.cells #[.int .i64 a, .int .i64 b, .int .i64 x] 42) = W6 at *
      have c1 := (blk_cell HN6.out.mb 1).trans rfl
      have d0 := (blk_cell HX6.out 0).trans rfl
      have d1 := (blk_cell HX6.out 1).trans rfl
      have d2 := (blk_cell HX6.out 2).trans rfl
      have HND : Hid (OfR w W6.drew n vk acc) := Lib.hid (HN6.out.below (Below.refl _ _).drew)
      refine start_ (n := 18) (S := fun w' => w'.cell? ⟨w.heap.size + 1, 1, none⟩ = some vk ∧ w'.cell? ⟨wr.heap.size, 0, none⟩ = some (.int .i64 a) ∧ w'.cell? ⟨wr.heap.size, 1, none⟩ = some (.int .i64 b) ∧ w'.cell? ⟨wr.heap.size, 2, none⟩ = some (.int .i64 x)) (ds := [17]) #[false, false, false, false, false, false, false, false, false, false, false, false, false, false, false, false, false, false] (by kernel_rfl) rfl rfl ⟨c1, d0, d1, d2⟩ (fun hHeld => ?_)
      refine pure_ (i := 0) (N := some 27) (v := ?_) (a' := ?_) #[true, false, false, false, false, false, false, false, false, false, false, false, false, false, false, false, false, false] rfl rfl (by kernel_rfl) (fun _ _ _ h => h) (Or.inl ⟨by rfl, ?_⟩) ?_ ?_
      rotate_left
      · intro w'
        go_simp
        with_reducible rfl
      rotate_left
      · simp only [Act.put, List.setIfInBounds_toArray, List.set_cons_zero, List.set_cons_succ, i64_w, i32_w]
        rfl
      refine pure_ (i := 2) (N := some 29) (v := ?_) (a' := ?_) #[true, false, true, false, false, false, false, false, false, false, false, false, false, false, false, false, false, false] rfl rfl (by kernel_rfl) (fun _ _ _ h => h) (Or.inl ⟨by rfl, ?_⟩) ?_ ?_
      rotate_left
      · intro w'
        go_simp
        with_reducible rfl
      rotate_left
      · simp only [Act.put, List.setIfInBounds_toArray, List.set_cons_zero, List.set_cons_succ, i64_w, i32_w]
        rfl
      refine pure_ (i := 4) (N := some 31) (v := ?_) (a' := ?_) #[true, false, true, false, true, false, false, false, false, false, false, false, false, false, false, false, false, false] rfl rfl (by kernel_rfl) (fun _ _ _ h => h) (Or.inl ⟨by rfl, ?_⟩) ?_ ?_
      rotate_left
      · intro w'
        go_simp
        with_reducible rfl
      rotate_left
      · simp only [Act.put, List.setIfInBounds_toArray, List.set_cons_zero, List.set_cons_succ, i64_w, i32_w]
        rfl
      refine pure_ (i := 6) (N := some 33) (v := ?_) (a' := ?_) #[true, false, true, false, true, false, true, false, false, false, false, false, false, false, false, false, false, false] rfl rfl (by kernel_rfl) (fun _ _ _ h => h) (Or.inl ⟨by rfl, ?_⟩) ?_ ?_
      rotate_left
      · intro w'
        go_simp
        with_reducible rfl
      rotate_left
      · simp only [Act.put, List.setIfInBounds_toArray, List.set_cons_zero, List.set_cons_succ, i64_w, i32_w]
        rfl
      refine pure_ (i := 8) (N := some 35) (v := ?_) (a' := ?_) #[true, false, true, false, true, false, true, false, true, false, false, false, false, false, false, false, false, false] rfl rfl (by kernel_rfl) (fun _ _ _ h => h) (Or.inl ⟨by rfl, ?_⟩) ?_ ?_
      rotate_left
      · intro w'
        go_simp
        with_reducible rfl
      rotate_left
      · simp only [Act.put, List.setIfInBounds_toArray, List.set_cons_zero, List.set_cons_succ, i64_w, i32_w]
        rfl
      refine pure_ (i := 10) (N := some 37) (v := ?_) (a' := ?_) #[true, false, true, false, true, false, true, false, true, false, true, false, false, false, false, false, false, false] rfl rfl (by kernel_rfl) (fun _ _ _ h => h) (Or.inl ⟨by rfl, ?_⟩) ?_ ?_
      rotate_left
      · intro w'
        go_simp
        with_reducible rfl
      rotate_left
      · simp only [Act.put, List.setIfInBounds_toArray, List.set_cons_zero, List.set_cons_succ, i64_w, i32_w]
        rfl
      refine take_ (i := 1) (N := some 28) (v := ?_) (a' := ?_) #[true, true, true, false, true, false, true, false, true, false, true, false, false, false, false, false, false, false] rfl rfl (by kernel_rfl) (fun _ _ _ h => h) (Or.inl ⟨by rfl, ?_⟩) hHeld ?_ ?_
      rotate_left
      · rintro w' ⟨s0, s1, s2, s3⟩
        go_simp
        with_reducible rfl
      rotate_left
      · simp only [Act.put, List.setIfInBounds_toArray, List.set_cons_zero, List.set_cons_succ, i64_w, i32_w]
        rfl
      refine take_ (i := 3) (N := some 30) (v := ?_) (a' := ?_) #[true, true, true, true, true, false, true, false, true, false, true, false, false, false, false, false, false, false] rfl rfl (by kernel_rfl) (fun _ _ _ h => h) (Or.inl ⟨by rfl, ?_⟩) hHeld ?_ ?_
      rotate_left
      · rintro w' ⟨s0, s1, s2, s3⟩
        go_simp
        with_reducible rfl
      rotate_left
      · simp only [Act.put, List.setIfInBounds_toArray, List.set_cons_zero, List.set_cons_succ, i64_w, i32_w]
        rfl
      refine take_ (i := 7) (N := some 34) (v := ?_) (a' := ?_) #[true, true, true, true, true, false, true, true, true, false, true, false, false, false, false, false, false, false] rfl rfl (by kernel_rfl) (fun _ _ _ h => h) (Or.inl ⟨by rfl, ?_⟩) hHeld ?_ ?_
      rotate_left
      · rintro w' ⟨s0, s1, s2, s3⟩
        go_simp
        with_reducible rfl
      rotate_left
      · simp only [Act.put, List.setIfInBounds_toArray, List.set_cons_zero, List.set_cons_succ, i64_w, i32_w]
        rfl
      refine take_ (i := 11) (N := some 38) (v := ?_) (a' := ?_) #[true, true, true, true, true, false, true, true, true, false, true, true, false, false, false, false, false, false] rfl rfl (by kernel_rfl) (fun _ _ _ h => h) (Or.inl ⟨by rfl, ?_⟩) hHeld ?_ ?_
      rotate_left
      · rintro w' ⟨s0, s1, s2, s3⟩
        go_simp
        with_reducible rfl
      rotate_left
      · simp only [Act.put, List.setIfInBounds_toArray, List.set_cons_zero, List.set_cons_succ, i64_w, i32_w]
        rfl
      refine one_ (i := 5) (N := some 32) #[true, true, true, true, true, true, true, true, true, false, true, true, false, false, false, false, false, false] rfl rfl (by kernel_rfl) (by decide) (fun K hK => ?_)
      refine goes_ Try.func33 (by kernel_rfl) rfl #[.int .i64 a, .int .i64 n] (by rfl) rfl rfl (by simp only [List.map_toArray, List.map_cons, List.map_nil]; rfl) ?_
      with_reducible refine (HP0.out _).mono ?_
      rintro e w1 ⟨rfl, rfl⟩
      refine ⟨_, rfl, ?_⟩
      refine hK.out _ _ ⟨c1, d0, d1, d2⟩ (fun hHeld => ?_)
      clear hK K
      refine norm_ (a' := ?_) ?_ ?_
      rotate_left
      · show Act.put _ (some 32) _ = _
        simp only [Act.put, List.setIfInBounds_toArray, List.set_cons_zero, List.set_cons_succ, i64_w, i32_w]
        rfl
      refine one_ (i := 9) (N := some 36) #[true, true, true, true, true, true, true, true, true, true, true, true, false, false, false, false, false, false] rfl rfl (by kernel_rfl) (by decide) (fun K hK => ?_)
      refine goes_ Try.func33 (by kernel_rfl) rfl #[.int .i64 b, .int .i64 n] (by rfl) rfl rfl (by simp only [List.map_toArray, List.map_cons, List.map_nil]; rfl) ?_
      with_reducible refine (HP1.out _).mono ?_
      rintro e w1 ⟨rfl, rfl⟩
      refine ⟨_, rfl, ?_⟩
      refine hK.out _ _ ⟨c1, d0, d1, d2⟩ (fun hHeld => ?_)
      clear hK K
      refine norm_ (a' := ?_) ?_ ?_
      rotate_left
      · show Act.put _ (some 36) _ = _
        simp only [Act.put, List.setIfInBounds_toArray, List.set_cons_zero, List.set_cons_succ, i64_w, i32_w]
        rfl
      refine one_ (i := 12) (N := some 39) #[true, true, true, true, true, true, true, true, true, true, true, true, true, false, false, false, false, false] rfl rfl (by kernel_rfl) (by decide) (fun K hK => ?_)
      refine goes_ Try.func33 (by kernel_rfl) rfl #[.int .i64 x, .int .i64 2147483649] (by rfl) rfl rfl (by simp only [List.map_toArray, List.map_cons, List.map_nil]; rfl) ?_
      with_reducible refine (HP2.out _).mono ?_
      rintro e w1 ⟨rfl, rfl⟩
      refine ⟨_, rfl, ?_⟩
      refine hK.out _ _ ⟨c1, d0, d1, d2⟩ (fun hHeld => ?_)
      clear hK K
      refine norm_ (a' := ?_) ?_ ?_
      rotate_left
      · show Act.put _ (some 39) _ = _
        simp only [Act.put, List.setIfInBounds_toArray, List.set_cons_zero, List.set_cons_succ, i64_w, i32_w]
        rfl
      refine pure_ (i := 13) (N := some 40) (v := ?_) (a' := ?_) #[true, true, true, true, true, true, true, true, true, true, true, true, true, true, false, false, false, false] rfl rfl (by kernel_rfl) (fun _ _ _ h => h) (Or.inl ⟨by rfl, ?_⟩) ?_ ?_
      rotate_left
      · intro w'
        go_simp
        with_reducible rfl
      rotate_left
      · simp only [Act.put, List.setIfInBounds_toArray, List.set_cons_zero, List.set_cons_succ, i64_w, i32_w]
        rfl
      refine one_ (i := 14) (N := some 41) #[true, true, true, true, true, true, true, true, true, true, true, true, true, true, true, false, false, false] rfl rfl (by kernel_rfl) (by decide) (fun K hK => ?_)
      refine value_ (w1 := ?_) (v := ?_) (by rfl) rfl ?_ ?_
      rotate_left 2
      · go_simp
        constructor
        · rfl
        · rfl
      refine hK.out _ _ ⟨(cellAllocG c1), (cellAllocG d0), (cellAllocG d1), (cellAllocG d2)⟩ (fun hHeld => ?_)
      clear hK K
      refine norm_ (a' := ?_) ?_ ?_
      rotate_left
      · show Act.put _ (some 41) _ = _
        simp only [Act.put, List.setIfInBounds_toArray, List.set_cons_zero, List.set_cons_succ, i64_w, i32_w]
        rfl
      refine one_ (i := 15) (N := some 42) #[true, true, true, true, true, true, true, true, true, true, true, true, true, true, true, true, false, false] rfl rfl (by kernel_rfl) (by decide) (fun K hK => ?_)
      refine Kd.R_append_step k42 (w0 := w) (W := W6.drew) w.heap.size (by rfl) (.tmp 28) (.tmp 41) 22 42 (.agg #[(.int .i64 0), (.int .i64 0), (.int .i64 0)]) 24 rfl Try.underlying22 info42 rfl (by decide) (by omega) vk acc (⟨pa, pb, px⟩ : S42) [.int .i64 pa, .int .i64 pb, .int .i64 px] (fun _ => True) (fun _ => False) rfl rfl (k42_mkM _ _ _ (⟨pa, pb, px⟩ : S42)) (fun _ h => h.elim) (fun _ _ => trivial) HND.out.rk HND.out.bel HND.out.bel.size (by omega) ?_
      intro vk' w7 hR hB hG _
      obtain ⟨A9, c9, hv9⟩ := Kd.R_slice hR
      generalize (acc ++ [(⟨pa, pb, px⟩ : S42)]).length = m9 at hv9
      subst hv9
      have HN7 := Lib.hid (OfR.app HND.out hG hR hB)
      have hm := (hG.block _ (blk_lt HND.out.mb) (Kd.R_ne HND.out.rk HND.out.mb (by decide))).trans HND.out.mb
      have hx := (hG.block _ (blk_lt HX6.out) (fun e => by have := HRL.out _ e.symm; omega)).trans HX6.out
      have hml := blk_lt hm
      have hmf : ∀ j, w7.frozen? ⟨w.heap.size + 1, j, none⟩ = false := fun j => blk_frozen hm j
      clear hR hB hG
      refine hK.out _ _ ⟨((blk_cell hm 1).trans rfl), ((blk_cell hx 0).trans rfl), ((blk_cell hx 1).trans rfl), ((blk_cell hx 2).trans rfl)⟩ (fun hHeld => ?_)
      clear hK K
      refine norm_ (a' := ?_) ?_ ?_
      rotate_left
      · show Act.put _ (some 42) _ = _
        simp only [Act.put, List.setIfInBounds_toArray, List.set_cons_zero, List.set_cons_succ, i64_w, i32_w]
        rfl
      refine pure_ (i := 16) (N := some 43) (v := ?_) (a' := ?_) #[true, true, true, true, true, true, true, true, true, true, true, true, true, true, true, true, true, false] rfl rfl (by kernel_rfl) (fun _ _ _ h => h) (Or.inl ⟨by rfl, ?_⟩) ?_ ?_
      rotate_left
      · intro w'
        go_simp
        with_reducible rfl
      rotate_left
      · simp only [Act.put, List.setIfInBounds_toArray, List.set_cons_zero, List.set_cons_succ, i64_w, i32_w]
        rfl
      refine last_ (i := 17) (N := none) #[true, true, true, true, true, true, true, true, true, true, true, true, true, true, true, true, true, true] rfl rfl (by kernel_rfl) (by decide) (fun K hK => ?_)
      refine skip_ (w1 := ?_) (by rfl) rfl ?_ ?_
      rotate_left
      · go_simp
        rfl
      refine hK.out _ _ ?_
      clear hK K
      refine done_ (by kernel_rfl) ?_
      go_wp2_with fail
      go_roundw
      case measure => simp [intOf]; omega
      case rel => exact ⟨i + 1, _, by go_num, by omega, by omega, by rw [HTK'.out]; exact HN7⟩
    · have HE : Hid ((l.take i).map (ofS n) = ofL n l) := Lib.hid (by
        unfold ofL
        rcases Nat.lt_or_ge i 40 with h | h
        · rw [List.take_of_length_le (by have := HLEN.out; omega), List.take_of_length_le (by have := HLEN.out; omega)]
        · rw [show i = 40 by omega])
      rw [HE.out] at HN
      obtain ⟨Y, z, hvk⟩ := Kd.R_slice HN.out.rk
      generalize hy : (ofL n l).length = y at hvk
      subst hvk
      have b0 := (blk_cell HN.out.mb 0).trans rfl
      have b1 := (blk_cell HN.out.mb 1).trans rfl
      have bl := blk_lt HN.out.mb
      have z0 := (blk_cell HN.out.zb 0).trans rfl
      have z1 := (blk_cell HN.out.zb 1).trans rfl
      have zl := blk_lt HN.out.zb
      have zf : ∀ j, wr.frozen? ⟨w.heap.size, j, none⟩ = false := fun j => blk_frozen HN.out.zb j
      have p0 := blk_put HN.out.zb 0 (.int .i64 n) (cs' := #[.int .i64 n, .slice none 0 0]) rfl
      have HP2 := Lib.hid (blk_put p0 1 (.slice Y y z) (cs' := #[.int .i64 n, .slice Y y z]) rfl)
      have HRK := Lib.hid (Kd.R_set (Kd.R_set HN.out.rk HN.out.zb (by decide) 0 (.int .i64 n)) p0 (by decide) 1 (.slice Y y z))
      have HBE := Lib.hid ((HN.out.bel.setCell (p := ⟨w.heap.size, 0, none⟩) (by simp) (.int .i64 n)).setCell (p := ⟨w.heap.size, 1, none⟩) (by simp) (.slice Y y z))
      clear p0
      have hexit : Hid (∀ (r : Ending) (w' : World), (∃ v, r = .returned (.agg #[.int .i64 n, v]) ∧ Kd.R k42 42 w' w.heap.size (fun _ => True) v (ofL n l) ∧ Below w.heap.size w w') → ∃ v, r = .returned (.agg #[.int .i64 n, v]) ∧ Kd.R k42 42 w' w.heap.size (fun _ => True) v (ofL n l) ∧ Below w.heap.size w w') := Lib.hid (fun _ _ h => h)
      have t40 : decide ((i : Int) < (len : Int)) = true → decide ((i : Int) < 40) = false := fun h => by simp at h ⊢; omega
      by_cases hil : i < len
      · have h1 : (i : Int) < (len : Int) := by omega
        have h2 : ¬ (i : Int) < 40 := by omega
        go_wp2_with fail
        all_goals (try rw [Exit.noGoto_ret])
        all_goals (refine bodyPost_ret (results_cell_row rfl _ _ w.heap.size 27 #[.int .i64 n, .slice Y y z] (0, 0) _ rfl HP2.out Try.underlying27 rfl (by kernel_rfl)) rfl ?_)
        all_goals exact ⟨_, rfl, HRK.out, HBE.out⟩
      · have h1 : ¬ (i : Int) < (len : Int) := by omega
        go_wp2_with fail
        all_goals (try rw [Exit.noGoto_ret])
        all_goals (refine bodyPost_ret (results_cell_row rfl _ _ w.heap.size 27 #[.int .i64 n, .slice Y y z] (0, 0) _ rfl HP2.out Try.underlying27 rfl (by kernel_rfl)) rfl ?_)
        all_goals exact ⟨_, rfl, HRK.out, HBE.out⟩
set_option maxRecDepth 100000 in
set_option maxHeartbeats 4000000 in
theorem of7_walk' (w : World) (a0 : Int) (l : List S42) (Aa : Option Addr) (ca : Nat) (hC : Kd.C k42 w Aa l.length l) (hca : l.length ≤ ca) :
    Calls Try.prog 5 #[.int .i64 a0, .slice Aa l.length ca] w fun r w' => ∃ v, r = .returned (.agg #[.int .i64 (ofN a0), v]) ∧ Kd.R k42 42 w' w.heap.size (fun _ => True) v (ofL (ofN a0) l) ∧ Below w.heap.size w w' := by
  have HG0 : Hid (Below w.heap.size w (w.alloc (.cells #[.int .i64 0, .slice none 0 0] 27))) := Lib.hid ((Below.refl _ _).alloc (Nat.le_refl _) _)
  have HZ0 := Lib.hid (blk_new w (.cells #[.int .i64 0, .slice none 0 0] 27))
  have HO := Lib.hid (of6_walk _ a0 l Aa ca (Kd.C_below hC HG0.out) hca)
  clear hC hca
  generalize ofN a0 = n at *
  generalize ofL n l = L at *
  generalize l.length = len at *
  go_enter Try.func5, Try.ntmps5
  go_upto_region 1 with fail
  generalize w.alloc (.cells #[.int .i64 0, .slice none 0 0] 27) = W1 at *
  go_wp2_with (first | (go_at_call 12; refine HO.out.mono ?_; rintro e W2 ⟨v, rfl, hR, g⟩; obtain ⟨Y, z, hv⟩ := Kd.R_slice hR; generalize L.length = y at hv; subst hv; have HR := Lib.hid (Kd.R_lower hR HG0.out.size); have HG2 := Lib.hid (HG0.out.trans (g.mono HG0.out.size)); have HZ2 := Lib.hid ((g.block _ (blk_lt HZ0.out)).trans HZ0.out); have z0 := (blk_cell HZ2.out 0).trans rfl; have z1 := (blk_cell HZ2.out 1).trans rfl; have zl := blk_lt HZ2.out; have zf : ∀ j, W2.frozen? ⟨w.heap.size, j, none⟩ = false := fun j => blk_frozen HZ2.out j; clear hR g))
  have p0 := blk_put HZ2.out 0 (.int .i64 n) (cs' := #[.int .i64 n, .slice none 0 0]) rfl
  have p1 := blk_put p0 1 (.slice Y y z) (cs' := #[.int .i64 n, .slice Y y z]) rfl
  all_goals (try rw [Exit.noGoto_ret])
  all_goals (refine bodyPost_ret (results_cell_row rfl _ _ w.heap.size 27 #[.int .i64 n, .slice Y y z] (0, 0) _ rfl p1 Try.underlying27 rfl (by kernel_rfl)) rfl ?_)
  all_goals exact ⟨_, rfl, Kd.R_set (Kd.R_set HR.out HZ2.out (by decide) 0 _) p0 (by decide) 1 _, (HG2.out.setCell (p := ⟨w.heap.size, 0, none⟩) (by simp) _).setCell (p := ⟨w.heap.size, 1, none⟩) (by simp) _⟩
end Go.Proofs.Ytfppfdejjifhdaa.PAll
