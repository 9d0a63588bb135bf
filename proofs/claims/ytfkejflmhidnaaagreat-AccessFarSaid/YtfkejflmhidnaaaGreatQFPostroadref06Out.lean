import Derived.Test.YtfkejflmhidnaaaGreatQHpF
import Derived.Test.YtfkejflmhidnaaaGreatQPAllx0
set_option linter.all false
namespace Go.Proofs.YtfkejflmhidnaaaGreat.PAll
open RowKit YtfkejflmhidnaaaGreatW.PrintWords YtfkejflmhidnaaaGreatW.PrintLast YtfkejflmhidnaaaGreatW.PrintMore
open Hp hiding Good
def insE : List S75 → S75 → List S75
  | [], x => [x]
  | y :: l, x => if y.f0 < x.f0 then y :: insE l x else x :: y :: l
theorem insE_at (x : S75) : ∀ (l : List S75) (k : Nat), k ≤ l.length → (∀ j : Nat, j < k → (rd_T75 l (j : Int)).f0 < x.f0) → (k = l.length ∨ ¬ (rd_T75 l (k : Int)).f0 < x.f0) → l.take k ++ [x] ++ l.drop k = insE l x
  | [], k, hk, _, _ => by
    obtain rfl : k = 0 := by simpa using hk
    rfl
  | y :: l, 0, _, _, h => by
    have : ¬ y.f0 < x.f0 := by
      rcases h with h | h
      · simp at h
      · exact h
    simp only [insE, if_neg this]
    rfl
  | y :: l, k + 1, hk, h1, h2 => by
    have h0 : y.f0 < x.f0 := h1 0 (by omega)
    simp only [insE, if_pos h0]
    have ih := insE_at x l k (by simpa using hk) (fun j hj => by
      have := h1 (j + 1) (by omega)
      simpa [rd_T75] using this) (by
      rcases h2 with h2 | h2
      · left; simpa using h2
      · right; simpa [rd_T75] using h2)
    rw [← ih]
    rfl
theorem mem_insE {x y : S75} : ∀ {l : List S75}, y ∈ insE l x ↔ y = x ∨ y ∈ l
  | [] => by simp [insE]
  | z :: l => by
    simp only [insE]
    split
    · rw [List.mem_cons, mem_insE, List.mem_cons]
      constructor
      · rintro (h | h | h)
        · exact .inr (.inl h)
        · exact .inl h
        · exact .inr (.inr h)
      · rintro (h | h | h)
        · exact .inr (.inl h)
        · exact .inl h
        · exact .inr (.inr h)
    · simp
theorem insE_len (x : S75) : ∀ l : List S75, (insE l x).length = l.length + 1
  | [] => rfl
  | z :: l => by
    simp only [insE]
    split
    · simp [insE_len x l]
    · simp
def postroadref06_put.f (k : Nat) (l0 : List (S75)) (a1_0 : Int) (a1_1 : Int) (a1_2 : Int) : Option ((List (S75))) := if l0.length < 1000000 then some (insE l0 ⟨a1_0, a1_1, a1_2⟩) else none
theorem sl67 : Tryz.prog.underlying 72 = some (.slice (Tryz.prog.elem 72)) := by
  have hel : Tryz.prog.elem 72 = 75 := by simp [Program.elem, Tryz.underlying72]
  rw [hel]; exact Tryz.underlying72
theorem cut_lo (A : Option Addr) (n c m : Nat) (hm : m ≤ n) (x : Int) (hx : x = m) (W : World) : (Instr.slice 72 (.slice A n c) (some (.int .i64 x)) none none).run Tryz.prog W = .ok (.slice (if c = m then A else A.map (·.add (m * 3))) (n - m) (c - m)) W := by
  have hel : Tryz.prog.elem 72 = 75 := by simp [Program.elem, Tryz.underlying72]
  obtain ⟨i0, hi0, hz0, hz1, hz2⟩ := info_parts info75
  subst hx
  rw [run_slice_l W 72 A n c sl67 .i64 (m : Int) (Int.natCast_nonneg _) (by omega), hel]
  simp [sizeOf, typeInfo, hi0, hz1, sliced, Result.andThen]
theorem cut_hi (A : Option Addr) (n c m : Nat) (hm : m ≤ c) (x : Int) (hx : x = m) (W : World) : (Instr.slice 72 (.slice A n c) none (some (.int .i64 x)) none).run Tryz.prog W = .ok (.slice A m c) W := by
  have hel : Tryz.prog.elem 72 = 75 := by simp [Program.elem, Tryz.underlying72]
  obtain ⟨i0, hi0, hz0, hz1, hz2⟩ := info_parts info75
  subst hx
  rw [run_slice_h W 72 A n c sl67 .i64 (m : Int) (Int.natCast_nonneg _) (by omega), hel]
  have : A.map (fun a => a.add 0) = A := by
    cases A with
    | none => rfl
    | some a => simp [Addr.add]
  simp [sizeOf, typeInfo, hi0, hz1, sliced, Result.andThen, this]
set_option maxRecDepth 100000 in
set_option maxHeartbeats 4000000 in
theorem postroadref06_put.calls (k : Nat) (A0 : Option Addr) (c0 : Nat) (l0 : List (S75)) (a1_0 : Int) (a1_1 : Int) (a1_2 : Int) (r : List (S75)) (w : World) (hr0 : Kd.C k75 w A0 l0.length l0) (hc0 : l0.length ≤ c0) (h : postroadref06_put.f k l0 a1_0 a1_1 a1_2 = some r) :
    Calls Tryz.prog 134 #[.slice A0 l0.length c0, .agg #[.int .i64 a1_0, .int .i64 a1_1, .int .i64 a1_2]] w fun e w' => ∃ v0_ : Value, e = .returned (v0_) ∧ Kd.R k75 75 w' w.heap.size (fun _ => True) v0_ r ∧ Below w.heap.size w w' := by
  have hlt : l0.length < 1000000 := by
    unfold postroadref06_put.f at h
    by_cases hh : l0.length < 1000000
    · exact hh
    · rw [if_neg hh] at h; cases h
  have HR : Hid (insE l0 ⟨a1_0, a1_1, a1_2⟩ = r) := Lib.hid (by
    unfold postroadref06_put.f at h
    rw [if_pos hlt] at h
    exact Option.some.inj h)
  have HC := Lib.hid hr0
  have hl64 : l0.length ≤ 9223372036854775807 := by omega
  clear h
  obtain ⟨len, hlen⟩ : ∃ len, l0.length = len := ⟨_, rfl⟩
  have HLEN := Lib.hid hlen
  rw [hlen] at hlt hl64 hc0 HC ⊢
  clear hr0 hlen
  have HB0 : Hid (Below w.heap.size w (w.alloc (.cells #[.int .i64 a1_0, .int .i64 a1_1, .int .i64 a1_2] 75))) := Lib.hid ((Below.refl _ _).alloc (Nat.le_refl _) _)
  have HX0 := Lib.hid (blk_new w (.cells #[.int .i64 a1_0, .int .i64 a1_1, .int .i64 a1_2] 75))
  go_enter Tryz.func134, Tryz.ntmps134
  go_wp2_with fail
  generalize w.alloc (.cells #[.int .i64 a1_0, .int .i64 a1_1, .int .i64 a1_2] 75) = W1 at *
  go_loopw [5] (fun v5 wr => ∃ k : Nat, v5 = .int .i64 k ∧ k ≤ len ∧ Hid (Below w.heap.size w wr) ∧ Hid (wr.heap[w.heap.size]? = some (.cells #[.int .i64 a1_0, .int .i64 a1_1, .int .i64 a1_2] 75 (0, 0))) ∧ Hid (∀ j : Nat, j < k → (rd_T75 l0 (j : Int)).f0 < a1_0)) (fun v5 _ => len - (intOf v5).toNat)
  case atStart => exact ⟨0, rfl, by omega, HB0, HX0, Lib.hid (fun j hj => by omega)⟩
  case round =>
    obtain ⟨k, rfl, hk, HB, HX, HS⟩ := hrel
    clear HB0 HX0
    have x0 : wr.cell? ⟨w.heap.size, 0, none⟩ = some (.int .i64 a1_0) := (blk_cell HX.out 0).trans rfl
    have x1 : wr.cell? ⟨w.heap.size, 1, none⟩ = some (.int .i64 a1_1) := (blk_cell HX.out 1).trans rfl
    have x2 : wr.cell? ⟨w.heap.size, 2, none⟩ = some (.int .i64 a1_2) := (blk_cell HX.out 2).trans rfl
    have hi0 : (0 : Int) ≤ (k : Int) := Int.natCast_nonneg _
    by_cases hkl : k < len
    · have hi1 : (k : Int) < (len : Int) := by omega
      have d0 : decide ((k : Int) < (len : Int)) = true := by simpa using hi1
      have d1 : decide (k < len) = true := by simpa using hkl
      obtain ⟨ad, hA, r0, _, _⟩ := at_T75 (Kd.C_below HC.out HB.out) (k : Int) (by omega) (by omega)
      simp only [Int.toNat_natCast] at r0
      obtain ⟨q, hq⟩ : ∃ q, (rd_T75 l0 (k : Int)).f0 = q := ⟨_, rfl⟩
      have HQ := Lib.hid hq
      rw [hq] at r0
      subst hA
      clear hq
      by_cases hqa : q < a1_0
      · have e1 : decide (q < a1_0) = true := by simpa using hqa
        have HS2 : Hid (∀ j : Nat, j < k + 1 → (rd_T75 l0 (j : Int)).f0 < a1_0) := Lib.hid (fun j hj => by
          rcases Nat.lt_or_ge j k with h | h
          · exact HS.out j h
          · have : j = k := by omega
            subst this; rw [HQ.out]; exact hqa)
        clear hqa HS
        go_wp2_with fail
        go_region
        go_wp2_with fail
        go_roundw
        case measure => simp [intOf]; omega
        case rel => exact ⟨k + 1, by go_num, by omega, Lib.hid HB.out.drew, Lib.hid HX.out, HS2⟩
      · have e1 : decide (q < a1_0) = false := by simpa using hqa
        have HI : Hid (l0.take k ++ [(⟨a1_0, a1_1, a1_2⟩ : S75)] ++ l0.drop k = r) := Lib.hid (by
          rw [← HR.out]
          exact insE_at _ l0 k (by rw [HLEN.out]; omega) HS.out (.inr (by rw [HQ.out]; exact hqa)))
        clear hqa HS HR
        go_wp2_with fail
        go_region
        go_upto_region 5 with fail
        have HB5 := Lib.hid HB.out.drew
        have HX5 : Hid (wr.drew.heap[w.heap.size]? = some (.cells #[.int .i64 a1_0, .int .i64 a1_1, .int .i64 a1_2] 75 (0, 0))) := Lib.hid HX.out
        clear HB HX x0 x1 x2 r0
        generalize wr.drew = W5 at *
        have hs1 := fun W => cut_hi (some ad) len c0 k (by omega) (k : Int) rfl W
        have hs2 := fun W => cut_lo (some ad) len c0 k (by omega) (k : Int) rfl W
        obtain ⟨AL, hAL⟩ : ∃ AL, (if c0 = k then (some ad) else ((some ad)).map (·.add (k * 3))) = AL := ⟨_, rfl⟩
        have HT : Hid (∀ W, Below w.heap.size w W → Kd.C k75 W (some ad) k (l0.take k) ∧ Kd.C k75 W AL (len - k) (l0.drop k)) := Lib.hid (fun W g => by
          have hc : Kd.C k75 W (some ad) l0.length l0 := by rw [HLEN.out]; exact Kd.C_below HC.out g
          have h1 := Kd.C_take hc (m := k) (by rw [HLEN.out]; omega)
          have h2 := Kd.C_drop hc (m := k) (c := c0) (by rw [HLEN.out]; omega) (by rw [HLEN.out]; omega)
          have e1 : (l0.take k).length = k := by rw [List.length_take, HLEN.out]; omega
          have e2 : (l0.drop k).length = len - k := by rw [List.length_drop, HLEN.out]
          rw [e1] at h1
          rw [e2] at h2
          rw [← hAL]
          exact ⟨h1, h2⟩)
        have HLT : Hid ((l0.take k).length = k ∧ (l0.drop k).length = len - k) := Lib.hid ⟨by rw [List.length_take, HLEN.out]; omega, by rw [List.length_drop, HLEN.out]⟩
        rw [hAL] at hs2
        clear hAL
        generalize l0.take k = t1 at *
        generalize l0.drop k = t2 at *
        have ht1 : t1.length = k := HLT.out.1
        have ht2 : t2.length = len - k := HLT.out.2
        clear HLT
        obtain ⟨lk, hlk⟩ : ∃ lk, len - k = lk := ⟨_, rfl⟩
        obtain ⟨ck, hck⟩ : ∃ ck, c0 - k = ck := ⟨_, rfl⟩
        rw [hlk] at HT ht2 hs2
        rw [hck] at hs2
        have hkm : lk < 1000000 := by omega
        have hk6 : k < 1000000 := by omega
        clear hlk hck
        go_upto_region 6 with (at_builtin; refine Kd.R_append_rows k75 (w0 := w) (Rr := k75.K W5) w.heap.size rfl (.tmp 23) (.tmp 26) 72 75 (.agg #[(.int .i64 0), (.int .i64 0), (.int .i64 0)]) 24 rfl Tryz.underlying72 info75 rfl (by decide) (by omega) (.slice none 0 0) [] t1 (some ad) k c0 (fun _ => True) (fun _ => False) rfl rfl (Kd.R_nil _ _ _ _ _) (HT.out W5 HB5.out).1 (fun x cs h => by obtain rfl := k75_open h; exact k75_mkM _ _ _ _) (fun _ h => h.elim) (fun _ _ => trivial) HB5.out HB5.out.size (by simp only [List.length_nil]; omega) ?_; intro v6 w6 hR hB hg _; have HR6 := Lib.hid hR; have HB6 := Lib.hid hB; have HX6 : Hid (w6.heap[w.heap.size]? = some (.cells #[.int .i64 a1_0, .int .i64 a1_1, .int .i64 a1_2] 75 (0, 0))) := Lib.hid ((hg.block _ (blk_lt HX5.out) (by simp [Value.ownBlock])).trans HX5.out); clear hR hB hg)
        have y0 : w6.cell? ⟨w.heap.size, 0, none⟩ = some (.int .i64 a1_0) := (blk_cell HX6.out 0).trans rfl
        have y1 : w6.cell? ⟨w.heap.size, 1, none⟩ = some (.int .i64 a1_1) := (blk_cell HX6.out 1).trans rfl
        have y2 : w6.cell? ⟨w.heap.size, 2, none⟩ = some (.int .i64 a1_2) := (blk_cell HX6.out 2).trans rfl
        have hls : ([] ++ t1 : List S75).length < 1000000 := by simp only [List.nil_append]; omega
        go_upto_region 7 with (at_builtin; refine Kd.R_append k75 (w0 := w) (W := w6) w.heap.size rfl (.tmp 28) (.tmp 30) 72 75 (.agg #[(.int .i64 0), (.int .i64 0), (.int .i64 0)]) 24 rfl Tryz.underlying72 info75 rfl (by decide) (by omega) _ ([] ++ t1) (⟨a1_0, a1_1, a1_2⟩ : S75) [.int .i64 a1_0, .int .i64 a1_1, .int .i64 a1_2] (fun _ => True) (fun _ => False) rfl rfl (k75_mkM _ _ _ (⟨a1_0, a1_1, a1_2⟩ : S75)) (fun _ h => h.elim) (fun _ _ => trivial) HR6.out HB6.out HB6.out.size (by omega) ?_; intro v7 w7 hR hB hg _; have HR7 := Lib.hid hR; have HB7 := Lib.hid hB; clear hR hB hg)
        clear y0 y1 y2 HR6 HB6 HX6
        have hls7 : ([] ++ t1 ++ [(⟨a1_0, a1_1, a1_2⟩ : S75)]).length < 1000002 := by simp only [List.length_append, List.length_singleton, List.length_nil]; omega
        go_wp2_with (at_builtin; refine Kd.R_append_rows k75 (w0 := w) (Rr := k75.K w7) w.heap.size rfl (.tmp 32) (.tmp 35) 72 75 (.agg #[(.int .i64 0), (.int .i64 0), (.int .i64 0)]) 24 rfl Tryz.underlying72 info75 rfl (by decide) (by omega) _ ([] ++ t1 ++ [(⟨a1_0, a1_1, a1_2⟩ : S75)]) t2 AL lk ck (fun _ => True) (fun _ => False) rfl rfl HR7.out (HT.out w7 HB7.out).2 (fun x cs h => by obtain rfl := k75_open h; exact k75_mkM _ _ _ _) (fun _ h => h.elim) (fun _ _ => trivial) HB7.out HB7.out.size (by omega) ?_; intro v8 w8 hR hB hg _; have HR8 := Lib.hid hR; have HB8 := Lib.hid hB; clear hR hB hg)
        all_goals (try rw [Exit.noGoto_ret])
        all_goals go_ret
        all_goals exact ⟨_, rfl, by have h8 := HR8.out; have hi := HI.out; rw [List.nil_append] at h8; rw [hi] at h8; exact h8, HB8.out⟩
    · have hkn : len ≤ k := by omega
      have hnd : ¬ (k : Int) < (len : Int) := by omega
      have d0 : decide ((k : Int) < (len : Int)) = false := by simpa using hnd
      have d1 : decide (k < len) = false := by simpa using hkl
      have HI : Hid (l0.take k ++ [(⟨a1_0, a1_1, a1_2⟩ : S75)] ++ l0.drop k = r) := Lib.hid (by
        rw [← HR.out]
        exact insE_at _ l0 k (by rw [HLEN.out]; omega) HS.out (.inl (by rw [HLEN.out]; omega)))
      clear HS HR
      go_wp2_with fail
      go_region
      go_upto_region 5 with fail
      have HB5 := Lib.hid HB.out.drew
      have HX5 : Hid (wr.drew.heap[w.heap.size]? = some (.cells #[.int .i64 a1_0, .int .i64 a1_1, .int .i64 a1_2] 75 (0, 0))) := Lib.hid HX.out
      clear HB HX x0 x1 x2 
      generalize wr.drew = W5 at *
      have hs1 := fun W => cut_hi A0 len c0 k (by omega) (k : Int) rfl W
      have hs2 := fun W => cut_lo A0 len c0 k (by omega) (k : Int) rfl W
      obtain ⟨AL, hAL⟩ : ∃ AL, (if c0 = k then A0 else (A0).map (·.add (k * 3))) = AL := ⟨_, rfl⟩
      have HT : Hid (∀ W, Below w.heap.size w W → Kd.C k75 W A0 k (l0.take k) ∧ Kd.C k75 W AL (len - k) (l0.drop k)) := Lib.hid (fun W g => by
        have hc : Kd.C k75 W A0 l0.length l0 := by rw [HLEN.out]; exact Kd.C_below HC.out g
        have h1 := Kd.C_take hc (m := k) (by rw [HLEN.out]; omega)
        have h2 := Kd.C_drop hc (m := k) (c := c0) (by rw [HLEN.out]; omega) (by rw [HLEN.out]; omega)
        have e1 : (l0.take k).length = k := by rw [List.length_take, HLEN.out]; omega
        have e2 : (l0.drop k).length = len - k := by rw [List.length_drop, HLEN.out]
        rw [e1] at h1
        rw [e2] at h2
        rw [← hAL]
        exact ⟨h1, h2⟩)
      have HLT : Hid ((l0.take k).length = k ∧ (l0.drop k).length = len - k) := Lib.hid ⟨by rw [List.length_take, HLEN.out]; omega, by rw [List.length_drop, HLEN.out]⟩
      rw [hAL] at hs2
      clear hAL
      generalize l0.take k = t1 at *
      generalize l0.drop k = t2 at *
      have ht1 : t1.length = k := HLT.out.1
      have ht2 : t2.length = len - k := HLT.out.2
      clear HLT
      obtain ⟨lk, hlk⟩ : ∃ lk, len - k = lk := ⟨_, rfl⟩
      obtain ⟨ck, hck⟩ : ∃ ck, c0 - k = ck := ⟨_, rfl⟩
      rw [hlk] at HT ht2 hs2
      rw [hck] at hs2
      have hkm : lk < 1000000 := by omega
      have hk6 : k < 1000000 := by omega
      clear hlk hck
      go_upto_region 6 with (at_builtin; refine Kd.R_append_rows k75 (w0 := w) (Rr := k75.K W5) w.heap.size rfl (.tmp 23) (.tmp 26) 72 75 (.agg #[(.int .i64 0), (.int .i64 0), (.int .i64 0)]) 24 rfl Tryz.underlying72 info75 rfl (by decide) (by omega) (.slice none 0 0) [] t1 A0 k c0 (fun _ => True) (fun _ => False) rfl rfl (Kd.R_nil _ _ _ _ _) (HT.out W5 HB5.out).1 (fun x cs h => by obtain rfl := k75_open h; exact k75_mkM _ _ _ _) (fun _ h => h.elim) (fun _ _ => trivial) HB5.out HB5.out.size (by simp only [List.length_nil]; omega) ?_; intro v6 w6 hR hB hg _; have HR6 := Lib.hid hR; have HB6 := Lib.hid hB; have HX6 : Hid (w6.heap[w.heap.size]? = some (.cells #[.int .i64 a1_0, .int .i64 a1_1, .int .i64 a1_2] 75 (0, 0))) := Lib.hid ((hg.block _ (blk_lt HX5.out) (by simp [Value.ownBlock])).trans HX5.out); clear hR hB hg)
      have y0 : w6.cell? ⟨w.heap.size, 0, none⟩ = some (.int .i64 a1_0) := (blk_cell HX6.out 0).trans rfl
      have y1 : w6.cell? ⟨w.heap.size, 1, none⟩ = some (.int .i64 a1_1) := (blk_cell HX6.out 1).trans rfl
      have y2 : w6.cell? ⟨w.heap.size, 2, none⟩ = some (.int .i64 a1_2) := (blk_cell HX6.out 2).trans rfl
      have hls : ([] ++ t1 : List S75).length < 1000000 := by simp only [List.nil_append]; omega
      go_upto_region 7 with (at_builtin; refine Kd.R_append k75 (w0 := w) (W := w6) w.heap.size rfl (.tmp 28) (.tmp 30) 72 75 (.agg #[(.int .i64 0), (.int .i64 0), (.int .i64 0)]) 24 rfl Tryz.underlying72 info75 rfl (by decide) (by omega) _ ([] ++ t1) (⟨a1_0, a1_1, a1_2⟩ : S75) [.int .i64 a1_0, .int .i64 a1_1, .int .i64 a1_2] (fun _ => True) (fun _ => False) rfl rfl (k75_mkM _ _ _ (⟨a1_0, a1_1, a1_2⟩ : S75)) (fun _ h => h.elim) (fun _ _ => trivial) HR6.out HB6.out HB6.out.size (by omega) ?_; intro v7 w7 hR hB hg _; have HR7 := Lib.hid hR; have HB7 := Lib.hid hB; clear hR hB hg)
      clear y0 y1 y2 HR6 HB6 HX6
      have hls7 : ([] ++ t1 ++ [(⟨a1_0, a1_1, a1_2⟩ : S75)]).length < 1000002 := by simp only [List.length_append, List.length_singleton, List.length_nil]; omega
      go_wp2_with (at_builtin; refine Kd.R_append_rows k75 (w0 := w) (Rr := k75.K w7) w.heap.size rfl (.tmp 32) (.tmp 35) 72 75 (.agg #[(.int .i64 0), (.int .i64 0), (.int .i64 0)]) 24 rfl Tryz.underlying72 info75 rfl (by decide) (by omega) _ ([] ++ t1 ++ [(⟨a1_0, a1_1, a1_2⟩ : S75)]) t2 AL lk ck (fun _ => True) (fun _ => False) rfl rfl HR7.out (HT.out w7 HB7.out).2 (fun x cs h => by obtain rfl := k75_open h; exact k75_mkM _ _ _ _) (fun _ h => h.elim) (fun _ _ => trivial) HB7.out HB7.out.size (by omega) ?_; intro v8 w8 hR hB hg _; have HR8 := Lib.hid hR; have HB8 := Lib.hid hB; clear hR hB hg)
      all_goals (try rw [Exit.noGoto_ret])
      all_goals go_ret
      all_goals exact ⟨_, rfl, by have h8 := HR8.out; have hi := HI.out; rw [List.nil_append] at h8; rw [hi] at h8; exact h8, HB8.out⟩
end Go.Proofs.YtfkejflmhidnaaaGreat.PAll
namespace Go.Proofs.YtfkejflmhidnaaaGreat.PAll
open RowKit YtfkejflmhidnaaaGreatW.PrintWords YtfkejflmhidnaaaGreatW.PrintLast YtfkejflmhidnaaaGreatW.PrintMore
attribute [local go_sem] max2_int min2_int max_two min_two max_three min_three max_four min_four
def postroadref06_Out.l0 : Nat → Int → List (S75) → Int → Int → List (S85) → List Int → Option ((List (S75)))
  | 0, _, _, _, _, _, _ => none
  | k + 1, x1, x5, x6, x180000, x180001, x180002 => if x6 < (x180002.length : Int) then (if 0 ≤ x6 then (if (rd x180002 x6) = 1 then (if x6 < (x180001.length : Int) then (if ((rd_T85 x180001 x6).f0) = x1 then ((postroadref06_put.f k x5 ((rd_T85 x180001 x6).f1) ((rd_T85 x180001 x6).f2) x6).bind fun t184 => (postroadref06_Out.l0 k x1 t184 (wrap64 (x6 + 1)) x180000 x180001 x180002)) else (postroadref06_Out.l0 k x1 x5 (wrap64 (x6 + 1)) x180000 x180001 x180002)) else (none)) else (postroadref06_Out.l0 k x1 x5 (wrap64 (x6 + 1)) x180000 x180001 x180002)) else (none)) else (some x5)
def postroadref06_Out.f (k : Nat) (a0_0 : Int) (l0_1 : List (S85)) (l0_2 : List Int) (a1 : Int) : Option ((List (S75))) := postroadref06_Out.l0 k a1 ([] : List (S75)) 0 a0_0 l0_1 l0_2
def postroadref06_Out.T6 : Bool × List (List Nat × List Nat) := (true, [([], []), ([], []), ([1], [1]), ([2], [2]), ([], []), ([3, 4], [3, 4]), ([5], [5]), ([6], [6]), ([], []), ([8], [8]), ([9], [9]), ([], []), ([10, 11], [10, 11]), ([12], [12]), ([13], [13]), ([], []), ([7, 14, 15], [7, 14, 15]), ([0, 16], [0, 16]), ([17, 17, 0, 1, 2, 3, 4, 5, 6, 7, 8, 9, 10, 11, 12, 13, 14, 15, 16, 17], [0, 17])])
def postroadref06_Out.B6 : List Nat := [0, 0, 2, 6, 0, 30, 62, 126, 0, 256, 768, 0, 3840, 7936, 16128, 0, 65534, 131071, 262143]
theorem postroadref06_Out.tab6 : rtab .any (opsOf Tryz.f110 6) = postroadref06_Out.T6 := by kernel_rfl
theorem postroadref06_Out.bits6 : waitsOk postroadref06_Out.T6.2 postroadref06_Out.B6 = true := by kernel_rfl
set_option maxHeartbeats 8000000 in
set_option maxRecDepth 100000 in
theorem postroadref06_Out.calls (k : Nat) (a0_0 : Int) (A0_1 : Option Addr) (c0_1 : Nat) (l0_1 : List (S85)) (A0_2 : Option Addr) (c0_2 : Nat) (l0_2 : List Int) (a1 : Int) (r : List (S75)) (w : World) (hr0_1 : Kd.C k85 w A0_1 l0_1.length l0_1) (hc0_1 : l0_1.length ≤ c0_1) (hr0_2 : Kd.C (Kd.int .i64) w A0_2 l0_2.length l0_2) (hc0_2 : l0_2.length ≤ c0_2) (h : postroadref06_Out.f k a0_0 l0_1 l0_2 a1 = some r) :
    Calls Tryz.prog 110 #[.agg #[.int .i64 a0_0, .slice A0_1 l0_1.length c0_1, .slice A0_2 l0_2.length c0_2], .int .i64 a1] w fun e w' => ∃ v0_ : Value, e = .returned (v0_) ∧ Kd.R k75 75 w' w.heap.size (fun _ => True) v0_ r ∧ Below w.heap.size w w' := by
  have hu77 := Tryz.underlying77
  have hu75 := Tryz.underlying75
  have HR0_1 := Aside0.mk hr0_1
  have HC0_1 := Aside0.mk hc0_1
  clear hr0_1 hc0_1
  have HR0_2 := Aside0.mk hr0_2
  have HC0_2 := Aside0.mk hc0_2
  clear hr0_2 hc0_2
  have HB := Aside0.mk (Below.refl w.heap.size w)
  have H : (postroadref06_Out.l0 k a1 ([] : List (S75)) 0 a0_0 l0_1 l0_2) = some r := h
  clear h
  have H' := Aside0.mk H
  clear H
  go_enter Tryz.func110, Tryz.ntmps110
  go_wp2_with (first | ((with_reducible refine gate_dst (N := 2) rfl ?_); refine box_event ?hg (N := 2) ?hd (cs := #[.int .i64 a0_0, .slice A0_1 l0_1.length c0_1, .slice A0_2 l0_2.length c0_2]) (t := 77) ?hr ?_; (case hd => rfl); (case hg => rfl); (case hr => first | (go_simp; done) | (go_simp; rfl)); intro gb179 hg w3 hbox hb; have n0_ := Aside0.mk (below_step (by repeat (first | (with_reducible first | exact HB.out | apply below_alloc | apply pw_below_drewN | apply below_drew1) | exact HB.out)) hb); have n1_ := Aside0.mk (hbox); have n2_ := Aside0.mk ((by rw [hg]; exact (below_size (by repeat (first | (with_reducible first | exact HB.out | apply below_alloc | apply pw_below_drewN | apply below_drew1) | exact HB.out))) : w.heap.size ≤ gb179)); have n3_ := Aside0.mk ((by rw [hg]; exact (below_size (by repeat (first | (with_reducible first | exact HB.out | apply below_alloc | apply pw_below_drewN | apply below_drew1) | exact HB.out))) : w.heap.size ≤ gb179)); clear HB; have HB := n0_; have BK179 := n1_; have GW179 := n2_; have GE179 := n3_; clear n0_ n1_ n2_ n3_; clear hb hbox hg))
  go_loopg [5, 6] k (fun kq v5 v6 w' => ∃ (x5_1 : List (S75)) (x6_1 : Int), v6 = .int .i64 x6_1 ∧ Aside0 (postroadref06_Out.l0 kq a1 x5_1 x6_1 a0_0 l0_1 l0_2 = some r) ∧ Aside0 (kq ≤ k) ∧ Aside0 (Kd.R k75 75 w' w.heap.size (fun _ => True) v5 x5_1) ∧ Aside0 (w'.heap[gb179]? = some (.cells #[.int .i64 a0_0, (.slice A0_1 l0_1.length c0_1), (.slice A0_2 l0_2.length c0_2)] 77 (0, 0))) ∧ Aside0 (Below w.heap.size w w'))
  case atStart => exact ⟨(([] : List (S75))), (0), (by first | rfl | (simp; done) | (simp [*]; done)), H', ⟨Nat.le_refl _⟩, ⟨by first | exact Kd.R_nil _ _ _ _ _ | exact Kd.N_nil _ _ _ _ _ | exact Kd.V_nil _ _ _ _ _ | exact Kd.Q_nil _ _ _ _ _ | exact Kd.S_nil _ _ _ _ _⟩, ⟨by (with_reducible repeat (first | refine blk_drewN ?_ _ | refine blk_drew ?_ | refine blk_alloc ?_ _)); exact BK179.out⟩, ⟨by repeat (first | (with_reducible first | exact HB.out | apply below_alloc | apply pw_below_drewN | apply below_drew1 | refine below_set ?_ GE179.out) | exact HB.out)⟩⟩
  case round =>
    clear H'
    try clear c1
    try clear p2
    obtain ⟨x5_1, x6_1, rfl, HA, HK1, HO_5, BK179, HB⟩ := hrel
    cases gk with
    | zero => exact absurd HA.out (by simp [postroadref06_Out.l0])
    | succ k1 =>
      have H := HA.out
      clear HA
      simp only [postroadref06_Out.l0] at H
      by_cases c4 : x6_1 < (l0_2.length : Int)
      · rw [if_pos c4] at H
        have c4b0 : decide (x6_1 < (l0_2.length : Int)) = true := decide_eq_true c4
        clear c4
        by_cases c5 : 0 ≤ x6_1
        · rw [if_pos c5] at H
          have c5b0 : decide (0 ≤ x6_1) = true := decide_eq_true c5
          clear c5
          by_cases c6 : (rd l0_2 x6_1) = 1
          · rw [if_pos c6] at H
            have c6b0 : ((rd l0_2 x6_1) == 1) = true := beq_iff_eq.mpr c6
            have c6b1 : ((rd l0_2 x6_1) != 1) = false := bne_eq_false_iff_eq.mpr c6
            clear c6
            by_cases c7 : x6_1 < (l0_1.length : Int)
            · rw [if_pos c7] at H
              have c7b0 : decide (x6_1 < (l0_1.length : Int)) = true := decide_eq_true c7
              clear c7
              by_cases c8 : ((rd_T85 l0_1 x6_1).f0) = a1
              · rw [if_pos c8] at H
                have c8b0 : (((rd_T85 l0_1 x6_1).f0) == a1) = true := beq_iff_eq.mpr c8
                have c8b1 : (((rd_T85 l0_1 x6_1).f0) != a1) = false := bne_eq_false_iff_eq.mpr c8
                clear c8
                replace H := Option.bind_eq_some_iff.mp H
                obtain ⟨t184, A90, H⟩ := H
                replace H : (postroadref06_Out.l0 k1 a1 t184 (wrap64 (x6_1 + 1)) a0_0 l0_1 l0_2) = some r := H
                have A9 := Aside0.mk A90
                clear A90
                have H' := Aside0.mk H
                clear H
                have hcz10_0 : wr.cell? ⟨gb179, 0, none⟩ = some (.int .i64 a0_0) := (blk_cell BK179.out 0).trans rfl
                have hcz10_1 : wr.cell? ⟨gb179, 1, none⟩ = some (.slice A0_1 l0_1.length c0_1) := (blk_cell BK179.out 1).trans rfl
                have hcz10_2 : wr.cell? ⟨gb179, 2, none⟩ = some (.slice A0_2 l0_2.length c0_2) := (blk_cell BK179.out 2).trans rfl
                have hfz10_0 := blk_frozen BK179.out 0
                have hfz10_1 := blk_frozen BK179.out 1
                have hfz10_2 := blk_frozen BK179.out 2
                have p180 : 0 ≤ (x6_1 : Int) := of_decide_eq_true (by first | (with_reducible assumption) | assumption)
                have q180 : x6_1 < (l0_2.length : Int) := of_decide_eq_true (by first | (with_reducible assumption) | assumption)
                obtain ⟨ad180, e180, hx180_0⟩ := Kd.at_int HR0_2.out x6_1 p180 q180
                cases e180
                replace hx180_0 := (HB.out.cell (World.block_lt_of_cell? w _ hx180_0)).trans hx180_0
                replace p180 := eq_true p180
                replace q180 := eq_true q180
                have p181 : 0 ≤ (x6_1 : Int) := of_decide_eq_true (by first | (with_reducible assumption) | assumption)
                have q181 : x6_1 < (l0_1.length : Int) := of_decide_eq_true (by first | (with_reducible assumption) | assumption)
                obtain ⟨ad181, e181, hx181_0, hx181_1, hx181_2⟩ := at_T85 HR0_1.out x6_1 p181 q181
                cases e181
                replace hx181_0 := (HB.out.cell (World.block_lt_of_cell? w _ hx181_0)).trans hx181_0
                replace hx181_1 := (HB.out.cell (World.block_lt_of_cell? w _ hx181_1)).trans hx181_1
                replace hx181_2 := (HB.out.cell (World.block_lt_of_cell? w _ hx181_2)).trans hx181_2
                replace p181 := eq_true p181
                replace q181 := eq_true q181
                try go_wp2
                have n0_ := Aside0.mk (Kd.R_drew HO_5.out)
                have n1_ := Aside0.mk (blk_drew BK179.out)
                have n2_ := Aside0.mk (below_drew1 HB.out)
                clear HO_5
                clear BK179
                clear HB
                have HO_5 := n0_
                have BK179 := n1_
                have HB := n2_
                clear n0_ n1_ n2_
                have p182 : 0 ≤ (x6_1 : Int) := of_decide_eq_true (by first | (with_reducible assumption) | assumption)
                have q182 : x6_1 < (l0_1.length : Int) := of_decide_eq_true (by first | (with_reducible assumption) | assumption)
                obtain ⟨ad182, e182, hx182_0, hx182_1, hx182_2⟩ := at_T85 HR0_1.out x6_1 p182 q182
                have hw182_2 := hx182_2
                have hw182_1 := hx182_1
                have hw182_0 := hx182_0
                obtain rfl : ad181 = ad182 := (by injection e182)
                replace hx182_0 := (HB.out.cell (World.block_lt_of_cell? w _ hx182_0)).trans hx182_0
                replace hx182_1 := (HB.out.cell (World.block_lt_of_cell? w _ hx182_1)).trans hx182_1
                replace hx182_2 := (HB.out.cell (World.block_lt_of_cell? w _ hx182_2)).trans hx182_2
                replace p182 := eq_true p182
                replace q182 := eq_true q182
                have p183 : 0 ≤ (x6_1 : Int) := of_decide_eq_true (by first | (with_reducible assumption) | assumption)
                have q183 : x6_1 < (l0_1.length : Int) := of_decide_eq_true (by first | (with_reducible assumption) | assumption)
                obtain ⟨ad183, e183, hx183_0, hx183_1, hx183_2⟩ := at_T85 HR0_1.out x6_1 p183 q183
                have hw183_2 := hx183_2
                have hw183_1 := hx183_1
                have hw183_0 := hx183_0
                obtain rfl : ad181 = ad183 := (by injection e183)
                replace hx183_0 := (HB.out.cell (World.block_lt_of_cell? w _ hx183_0)).trans hx183_0
                replace hx183_1 := (HB.out.cell (World.block_lt_of_cell? w _ hx183_1)).trans hx183_1
                replace hx183_2 := (HB.out.cell (World.block_lt_of_cell? w _ hx183_2)).trans hx183_2
                replace p183 := eq_true p183
                replace q183 := eq_true q183
                obtain ⟨Ao12, co12, eo12⟩ := Kd.R_slice HO_5.out
                (first | subst eo12 | (injection eo12 with f1_ f2_ f3_; have f4_ := f1_.symm; have f5_ := f3_.symm; clear f1_ f2_ f3_; subst f4_; subst f5_))
                refine start_ (n := 19) (S := fun w' => w'.cell? ⟨gb179, 0, none⟩ = some (.int .i64 a0_0) ∧ w'.cell? ⟨gb179, 1, none⟩ = some (.slice (some ad181) l0_1.length c0_1) ∧ w'.cell? ⟨gb179, 2, none⟩ = some (.slice (some ad180) l0_2.length c0_2) ∧ w'.cell? (ad181.add ((x6_1).toNat * 3)) = some (.int .i64 ((rd_T85 l0_1 x6_1).f0)) ∧ w'.cell? ⟨(ad181.add ((x6_1).toNat * 3)).block, (ad181.add ((x6_1).toNat * 3)).off + 1, none⟩ = some (.int .i64 ((rd_T85 l0_1 x6_1).f1)) ∧ w'.cell? ⟨(ad181.add ((x6_1).toNat * 3)).block, (ad181.add ((x6_1).toNat * 3)).off + 2, none⟩ = some (.int .i64 ((rd_T85 l0_1 x6_1).f2)) ∧ w'.cell? (ad181.add ((x6_1).toNat * 3)) = some (.int .i64 ((rd_T85 l0_1 x6_1).f0)) ∧ w'.cell? ⟨(ad181.add ((x6_1).toNat * 3)).block, (ad181.add ((x6_1).toNat * 3)).off + 1, none⟩ = some (.int .i64 ((rd_T85 l0_1 x6_1).f1)) ∧ w'.cell? ⟨(ad181.add ((x6_1).toNat * 3)).block, (ad181.add ((x6_1).toNat * 3)).off + 2, none⟩ = some (.int .i64 ((rd_T85 l0_1 x6_1).f2))) (ds := []) (bA_ 19 0) (by kernel_rfl) rfl rfl ⟨(blk_cell BK179.out 0).trans rfl, (blk_cell BK179.out 1).trans rfl, (blk_cell BK179.out 2).trans rfl, ((HB.out.cell (World.block_lt_of_cell? w _ hw182_0)).trans hw182_0), ((HB.out.cell (World.block_lt_of_cell? w _ hw182_1)).trans hw182_1), ((HB.out.cell (World.block_lt_of_cell? w _ hw182_2)).trans hw182_2), ((HB.out.cell (World.block_lt_of_cell? w _ hw183_0)).trans hw183_0), ((HB.out.cell (World.block_lt_of_cell? w _ hw183_1)).trans hw183_1), ((HB.out.cell (World.block_lt_of_cell? w _ hw183_2)).trans hw183_2)⟩ (fun hHeld => ?_); refine with_tabW postroadref06_Out.tab6 postroadref06_Out.bits6 (fun HT_ HW_ => ?_)
                generalize wr.drew = w11 at HO_5 BK179 HB hx182_0 hx182_1 hx182_2 hx183_0 hx183_1 hx183_2 hHeld ⊢
                refine p_ 0 31 _ (bA_ 19 1) rfl rfl (any_of HT_.out (by kernel_rfl)) (fun _ _ _ h => h) (by rfl) (by intro w'; go_simp; with_reducible rfl) _ (by simp only [zN_]; rfl) ?_
                refine p_ 1 32 _ (bA_ 19 3) rfl rfl (any_of HT_.out (by kernel_rfl)) (fun _ _ _ h => h) (by rfl) (by intro w'; go_simp; with_reducible rfl) _ (by simp only [zN_]; rfl) ?_
                refine p_ 2 33 _ (bA_ 19 7) rfl rfl (any_of HT_.out (by kernel_rfl)) (fun _ _ _ h => h) (by rfl) (by intro w'; go_simp; with_reducible rfl) _ (by simp only [zN_]; rfl) ?_
                refine p_ 4 35 _ (bA_ 19 23) rfl rfl (any_of HT_.out (by kernel_rfl)) (fun _ _ _ h => h) (by rfl) (by intro w'; go_simp; with_reducible rfl) _ (by simp only [zN_]; rfl) ?_
                refine p_ 8 39 _ (bA_ 19 279) rfl rfl (any_of HT_.out (by kernel_rfl)) (fun _ _ _ h => h) (by rfl) (by intro w'; go_simp; with_reducible rfl) _ (by simp only [zN_]; rfl) ?_
                refine p_ 9 40 _ (bA_ 19 791) rfl rfl (any_of HT_.out (by kernel_rfl)) (fun _ _ _ h => h) (by rfl) (by intro w'; go_simp; with_reducible rfl) _ (by simp only [zN_]; rfl) ?_
                refine p_ 11 42 _ (bA_ 19 2839) rfl rfl (any_of HT_.out (by kernel_rfl)) (fun _ _ _ h => h) (by rfl) (by intro w'; go_simp; with_reducible rfl) _ (by simp only [zN_]; rfl) ?_
                refine p_ 15 46 _ (bA_ 19 35607) rfl rfl (any_of HT_.out (by kernel_rfl)) (fun _ _ _ h => h) (by rfl) (by intro w'; go_simp; with_reducible rfl) _ (by simp only [zN_]; rfl) ?_
                refine t_ 3 34 ?_ (bA_ 19 35615) rfl rfl (take_ofW HT_.out HW_.out (by kernel_rfl)) (fun _ _ _ h => h) (by rfl) ?_ hHeld ?_ ?_ ?_
                rotate_left
                · rintro w' ⟨s0, s1, s2, s3, s4, s5, s6, s7, s8⟩
                  go_simp
                  with_reducible rfl
                rotate_left; · simp only [zN_]; rfl
                refine p_ 5 36 _ (bA_ 19 35647) rfl rfl (any_of HT_.out (by kernel_rfl)) (fun _ _ _ h => h) (by rfl) (by intro w'; go_simp; with_reducible rfl) _ (by simp only [zN_]; rfl) ?_
                refine p_ 6 37 _ (bA_ 19 35711) rfl rfl (any_of HT_.out (by kernel_rfl)) (fun _ _ _ h => h) (by rfl) (by intro w'; go_simp; with_reducible rfl) _ (by simp only [zN_]; rfl) ?_
                refine t_ 7 38 ?_ (bA_ 19 35839) rfl rfl (take_ofW HT_.out HW_.out (by kernel_rfl)) (fun _ _ _ h => h) (by rfl) ?_ hHeld ?_ ?_ ?_
                rotate_left
                · rintro w' ⟨s0, s1, s2, s3, s4, s5, s6, s7, s8⟩
                  go_simp
                  with_reducible rfl
                rotate_left; · simp only [zN_]; rfl
                refine t_ 10 41 ?_ (bA_ 19 36863) rfl rfl (take_ofW HT_.out HW_.out (by kernel_rfl)) (fun _ _ _ h => h) (by rfl) ?_ hHeld ?_ ?_ ?_
                rotate_left
                · rintro w' ⟨s0, s1, s2, s3, s4, s5, s6, s7, s8⟩
                  go_simp
                  with_reducible rfl
                rotate_left; · simp only [zN_]; rfl
                refine p_ 12 43 _ (bA_ 19 40959) rfl rfl (any_of HT_.out (by kernel_rfl)) (fun _ _ _ h => h) (by rfl) (by intro w'; go_simp; with_reducible rfl) _ (by simp only [zN_]; rfl) ?_
                refine p_ 13 44 _ (bA_ 19 49151) rfl rfl (any_of HT_.out (by kernel_rfl)) (fun _ _ _ h => h) (by rfl) (by intro w'; go_simp; with_reducible rfl) _ (by simp only [zN_]; rfl) ?_
                refine t_ 14 45 ?_ (bA_ 19 65535) rfl rfl (take_ofW HT_.out HW_.out (by kernel_rfl)) (fun _ _ _ h => h) (by rfl) ?_ hHeld ?_ ?_ ?_
                rotate_left
                · rintro w' ⟨s0, s1, s2, s3, s4, s5, s6, s7, s8⟩
                  go_simp
                  with_reducible rfl
                rotate_left; · simp only [zN_]; rfl
                refine p_ 16 47 _ (bA_ 19 131071) rfl rfl (any_of HT_.out (by kernel_rfl)) (fun _ _ _ h => h) (by rfl) (by intro w'; go_simp; with_reducible rfl) _ (by simp only [zN_]; rfl) ?_
                refine one_ (i := 17) (N := some 48) (bA_ 19 262143) rfl rfl (one_of HT_.out (by kernel_rfl)) (by decide) (fun K hK => ?_)
                refine goes_ Tryz.func134 (by kernel_rfl) rfl #[.slice Ao12 x5_1.length co12, .agg #[.int .i64 ((rd_T85 l0_1 x6_1).f1), .int .i64 ((rd_T85 l0_1 x6_1).f2), .int .i64 x6_1]] (by rfl) rfl rfl (by (try simp only [List.map_toArray, List.map_cons, List.map_nil]); first | done | rfl | (simp only [List.length_drop, List.length_take]; rfl)) ?_
                with_reducible refine (postroadref06_put.calls k1 _ _ x5_1 ((rd_T85 l0_1 x6_1).f1) ((rd_T85 l0_1 x6_1).f2) x6_1 t184 _ ?side1 ?side2 A9.out).mono ?_
                (case side1 => repeat (first | exact (Kd.R_reads' HO_5.out).2.2 | (with_reducible refine Kd.C_alloc ?_ _) | (with_reducible refine Kd.C_drewN ?_ _) | (with_reducible refine Kd.C_drew ?_)))
                (case side2 => exact (Kd.R_reads' HO_5.out).2.1)
                rintro e w13 ⟨v185, rfl, ho0, hb⟩
                refine ⟨_, rfl, ?_⟩
                have n0_ := Aside0.mk (Kd.R_elder' (by (with_reducible repeat (first | apply Kd.R_alloc | apply Kd.R_drewN | apply Kd.R_drew)); exact HO_5.out) (Kd.R_base ho0) hb)
                have n1_ := Aside0.mk (Kd.R_lower (Kd.R_new' ho0 (Kd.R_lt (by (with_reducible repeat (first | apply Kd.R_alloc | apply Kd.R_drewN | apply Kd.R_drew)); exact HO_5.out))) (below_size (by repeat (first | (with_reducible first | exact HB.out | apply below_alloc | apply pw_below_drewN | apply below_drew1 | refine below_set ?_ GE179.out) | exact HB.out))))
                have n2_ := Aside0.mk (blk_below (g := gb179) (o := .cells #[.int .i64 a0_0, .slice (some ad181) l0_1.length c0_1, .slice (some ad180) l0_2.length c0_2] 77 (0, 0)) (by (with_reducible repeat (first | refine blk_drewN ?_ _ | refine blk_drew ?_ | refine blk_alloc ?_ _)); exact BK179.out) hb)
                have n3_ := Aside0.mk (below_step (by repeat (first | (with_reducible first | exact HB.out | apply below_alloc | apply pw_below_drewN | apply below_drew1 | refine below_set ?_ GE179.out) | exact HB.out)) hb)
                clear HO_5
                clear BK179
                clear HB
                have HO_5 := n0_
                have HO186 := n1_
                have BK179 := n2_
                have HB := n3_
                clear n0_ n1_ n2_ n3_
                (try clear hb)
                (try clear hb2)
                (try clear hk)
                (try clear hi)
                (try clear ho0)
                refine hK.out _ _ ⟨(blk_cell BK179.out 0).trans rfl, (blk_cell BK179.out 1).trans rfl, (blk_cell BK179.out 2).trans rfl, ((HB.out.cell (World.block_lt_of_cell? w _ hw182_0)).trans hw182_0), ((HB.out.cell (World.block_lt_of_cell? w _ hw182_1)).trans hw182_1), ((HB.out.cell (World.block_lt_of_cell? w _ hw182_2)).trans hw182_2), ((HB.out.cell (World.block_lt_of_cell? w _ hw183_0)).trans hw183_0), ((HB.out.cell (World.block_lt_of_cell? w _ hw183_1)).trans hw183_1), ((HB.out.cell (World.block_lt_of_cell? w _ hw183_2)).trans hw183_2)⟩ (fun hHeld => ?_)
                clear hK K
                refine norm_ (a' := ?_) ?_ ?_
                rotate_left
                · show Act.put _ (some 48) _ = _
                  simp only [zN_]
                  rfl
                refine p_ 18 5 _ (bA_ 19 524287) rfl rfl (any_of HT_.out (by kernel_rfl)) (fun _ _ _ h => h) (by rfl) (by intro w'; go_simp; with_reducible rfl) _ (by simp only [zN_]; rfl) ?_
                refine done_ (done_of HT_.out (by kernel_rfl)) ?_
                try go_wp2
                go_roundg k1
                case measure => have := HK1.out; omega
                case rel => exact ⟨(t184), (wrap64 (x6_1 + 1)), (by first | rfl | (simp; done) | (simp [*]; done)), H', ⟨by have := HK1.out; omega⟩, ⟨by (with_reducible repeat (first | apply Kd.R_alloc | apply Kd.R_drewN | apply Kd.R_drew)); exact Kd.R_mono HO186.out (fun _ hk => trivial)⟩, ⟨by (with_reducible repeat (first | refine blk_drewN ?_ _ | refine blk_drew ?_ | refine blk_alloc ?_ _)); exact BK179.out⟩, ⟨by repeat (first | (with_reducible first | exact HB.out | apply below_alloc | apply pw_below_drewN | apply below_drew1 | refine below_set ?_ GE179.out) | exact HB.out)⟩⟩
              · rw [if_neg c8] at H
                have c8b0 : (((rd_T85 l0_1 x6_1).f0) == a1) = false := beq_eq_false_iff_ne.mpr c8
                have c8b1 : (((rd_T85 l0_1 x6_1).f0) != a1) = true := bne_iff_ne.mpr c8
                have H' := Aside0.mk H
                clear H
                have hcz14_0 : wr.cell? ⟨gb179, 0, none⟩ = some (.int .i64 a0_0) := (blk_cell BK179.out 0).trans rfl
                have hcz14_1 : wr.cell? ⟨gb179, 1, none⟩ = some (.slice A0_1 l0_1.length c0_1) := (blk_cell BK179.out 1).trans rfl
                have hcz14_2 : wr.cell? ⟨gb179, 2, none⟩ = some (.slice A0_2 l0_2.length c0_2) := (blk_cell BK179.out 2).trans rfl
                have hfz14_0 := blk_frozen BK179.out 0
                have hfz14_1 := blk_frozen BK179.out 1
                have hfz14_2 := blk_frozen BK179.out 2
                have p180 : 0 ≤ (x6_1 : Int) := of_decide_eq_true (by first | (with_reducible assumption) | assumption)
                have q180 : x6_1 < (l0_2.length : Int) := of_decide_eq_true (by first | (with_reducible assumption) | assumption)
                obtain ⟨ad180, e180, hx180_0⟩ := Kd.at_int HR0_2.out x6_1 p180 q180
                cases e180
                replace hx180_0 := (HB.out.cell (World.block_lt_of_cell? w _ hx180_0)).trans hx180_0
                replace p180 := eq_true p180
                replace q180 := eq_true q180
                have p181 : 0 ≤ (x6_1 : Int) := of_decide_eq_true (by first | (with_reducible assumption) | assumption)
                have q181 : x6_1 < (l0_1.length : Int) := of_decide_eq_true (by first | (with_reducible assumption) | assumption)
                obtain ⟨ad181, e181, hx181_0, hx181_1, hx181_2⟩ := at_T85 HR0_1.out x6_1 p181 q181
                cases e181
                replace hx181_0 := (HB.out.cell (World.block_lt_of_cell? w _ hx181_0)).trans hx181_0
                replace hx181_1 := (HB.out.cell (World.block_lt_of_cell? w _ hx181_1)).trans hx181_1
                replace hx181_2 := (HB.out.cell (World.block_lt_of_cell? w _ hx181_2)).trans hx181_2
                replace p181 := eq_true p181
                replace q181 := eq_true q181
                go_wp2
                go_roundg k1
                case measure => have := HK1.out; omega
                case rel => exact ⟨(x5_1), (wrap64 (x6_1 + 1)), (by first | rfl | (simp; done) | (simp [*]; done)), H', ⟨by have := HK1.out; omega⟩, ⟨by (with_reducible repeat (first | apply Kd.R_alloc | apply Kd.R_drewN | apply Kd.R_drew)); exact HO_5.out⟩, ⟨by (with_reducible repeat (first | refine blk_drewN ?_ _ | refine blk_drew ?_ | refine blk_alloc ?_ _)); exact BK179.out⟩, ⟨by repeat (first | (with_reducible first | exact HB.out | apply below_alloc | apply pw_below_drewN | apply below_drew1 | refine below_set ?_ GE179.out) | exact HB.out)⟩⟩
            · rw [if_neg c7] at H
              exact absurd H (by simp)
          · rw [if_neg c6] at H
            have c6b0 : ((rd l0_2 x6_1) == 1) = false := beq_eq_false_iff_ne.mpr c6
            have c6b1 : ((rd l0_2 x6_1) != 1) = true := bne_iff_ne.mpr c6
            have H' := Aside0.mk H
            clear H
            have hcz15_0 : wr.cell? ⟨gb179, 0, none⟩ = some (.int .i64 a0_0) := (blk_cell BK179.out 0).trans rfl
            have hcz15_1 : wr.cell? ⟨gb179, 1, none⟩ = some (.slice A0_1 l0_1.length c0_1) := (blk_cell BK179.out 1).trans rfl
            have hcz15_2 : wr.cell? ⟨gb179, 2, none⟩ = some (.slice A0_2 l0_2.length c0_2) := (blk_cell BK179.out 2).trans rfl
            have hfz15_0 := blk_frozen BK179.out 0
            have hfz15_1 := blk_frozen BK179.out 1
            have hfz15_2 := blk_frozen BK179.out 2
            have p180 : 0 ≤ (x6_1 : Int) := of_decide_eq_true (by first | (with_reducible assumption) | assumption)
            have q180 : x6_1 < (l0_2.length : Int) := of_decide_eq_true (by first | (with_reducible assumption) | assumption)
            obtain ⟨ad180, e180, hx180_0⟩ := Kd.at_int HR0_2.out x6_1 p180 q180
            cases e180
            replace hx180_0 := (HB.out.cell (World.block_lt_of_cell? w _ hx180_0)).trans hx180_0
            replace p180 := eq_true p180
            replace q180 := eq_true q180
            go_wp2
            go_roundg k1
            case measure => have := HK1.out; omega
            case rel => exact ⟨(x5_1), (wrap64 (x6_1 + 1)), (by first | rfl | (simp; done) | (simp [*]; done)), H', ⟨by have := HK1.out; omega⟩, ⟨by (with_reducible repeat (first | apply Kd.R_alloc | apply Kd.R_drewN | apply Kd.R_drew)); exact HO_5.out⟩, ⟨by (with_reducible repeat (first | refine blk_drewN ?_ _ | refine blk_drew ?_ | refine blk_alloc ?_ _)); exact BK179.out⟩, ⟨by repeat (first | (with_reducible first | exact HB.out | apply below_alloc | apply pw_below_drewN | apply below_drew1 | refine below_set ?_ GE179.out) | exact HB.out)⟩⟩
        · rw [if_neg c5] at H
          exact absurd H (by simp)
      · rw [if_neg c4] at H
        have c4b0 : decide (x6_1 < (l0_2.length : Int)) = false := decide_eq_false c4
        clear c4
        obtain rfl := Option.some.inj H
        have hcz16_0 : wr.cell? ⟨gb179, 0, none⟩ = some (.int .i64 a0_0) := (blk_cell BK179.out 0).trans rfl
        have hcz16_1 : wr.cell? ⟨gb179, 1, none⟩ = some (.slice A0_1 l0_1.length c0_1) := (blk_cell BK179.out 1).trans rfl
        have hcz16_2 : wr.cell? ⟨gb179, 2, none⟩ = some (.slice A0_2 l0_2.length c0_2) := (blk_cell BK179.out 2).trans rfl
        have hfz16_0 := blk_frozen BK179.out 0
        have hfz16_1 := blk_frozen BK179.out 1
        have hfz16_2 := blk_frozen BK179.out 2
        go_wp2
        go_ret
        exact ⟨_, by first | rfl | (simp [errW_none, errW_some] <;> rfl) | (simp [*, errW_none, errW_some] <;> rfl), by (with_reducible repeat (first | apply Kd.R_alloc | apply Kd.R_drewN | apply Kd.R_drew)); exact HO_5.out, by repeat (first | (with_reducible first | exact HB.out | apply below_alloc | apply pw_below_drewN | apply below_drew1 | refine below_set ?_ GE179.out) | exact HB.out)⟩
end Go.Proofs.YtfkejflmhidnaaaGreat.PAll
