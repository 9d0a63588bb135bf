import Derived.Test.YtfkejflmhidnaaaGreatQHpF
import Derived.Test.YtfkejflmhidnaaaGreatQZGcQ
import Derived.Test.YtfkejflmhidnaaaGreatQBlB
set_option linter.all false
namespace Go.Proofs.YtfkejflmhidnaaaGreat.PAll
open RowKit YtfkejflmhidnaaaGreatW.PrintWords YtfkejflmhidnaaaGreatW.PrintLast YtfkejflmhidnaaaGreatW.PrintMore
open Hp hiding Good
def insE : List S75 → S75 → List S75
 | [], x => [x]
 | y :: l, x => if y.f0 < x.f0 then y :: insE l x else x :: y :: l
theorem insE_at (x : S75) : ∀ (l : List S75) (k : Nat), k ≤ l.length → (∀ j : Nat, j < k → (rd_T75 l (j : Int)).f0 < x.f0) → (k = l.length ∨ ¬ (rd_T75 l (k : Int)).f0 < x.f0) → l.take k ++ [x] ++ l.drop k = insE l x
 | [], k, hk, _, _ => by
  obtain rfl : k = 0 := by simpa using hk
  rfl
 | y :: l, 0, _, _, h => by
  have : ¬ y.f0 < x.f0 := by
   rcases h with h | h
   ·simp at h
   ·exact h
  simp only [insE, if_neg this]
  rfl
 | y :: l, k + 1, hk, h1, h2 => by
  have h0 : y.f0 < x.f0 := h1 0 (by omega)
  simp only [insE, if_pos h0]
  have ih := insE_at x l k (by simpa using hk) (fun j hj => by
   have := h1 (j + 1) (by omega)
   simpa [rd_T75] using this) (by
   rcases h2 with h2 | h2
   ·left; simpa using h2
   ·right; simpa [rd_T75] using h2)
  rw [← ih]
  rfl
theorem mem_insE {x y : S75} : ∀ {l : List S75}, y ∈ insE l x ↔ y = x ∨ y ∈ l
 | [] => by simp [insE]
 | z :: l => by
  simp only [insE]
  split
  ·rw [List.mem_cons, mem_insE, List.mem_cons]
   constructor
   ·rintro (h | h | h)
    ·exact .inr (.inl h)
    ·exact .inl h
    ·exact .inr (.inr h)
   ·rintro (h | h | h)
    ·exact .inr (.inl h)
    ·exact .inl h
    ·exact .inr (.inr h)
  ·simp
theorem insE_len (x : S75) : ∀ l : List S75, (insE l x).length = l.length + 1
 | [] => rfl
 | z :: l => by
  simp only [insE]
  split
  ·simp [insE_len x l]
  ·simp
def postroadref06_put.f (k : Nat) (l0 : List (S75)) (a1_0 : Int) (a1_1 : Int) (a1_2 : Int) : Option ((List (S75))) := if l0.length < 1000000 then some (insE l0 ⟨a1_0, a1_1, a1_2⟩) else none
theorem sl67 : Tryz.prog.underlying 72 = some (.slice (Tryz.prog.elem 72)) := by
 have hel : Tryz.prog.elem 72 = 75 := by simp [Program.elem, Tryz.underlying72]
 rw [hel]; exact Tryz.underlying72
theorem cut_lo (A : Option Addr) (n c m : Nat) (hm : m ≤ n) (x : Int) (hx : x = m) (W : World) : (Instr.slice 72 (.slice A n c) (some (.int .i64 x)) none none).run Tryz.prog W = .ok (.slice (if c = m then A else A.map (·.add (m * 3))) (n - m) (c - m)) W := by
 have hel : Tryz.prog.elem 72 = 75 := by simp [Program.elem, Tryz.underlying72]
 obtain ⟨i0, hi0, hz0, hz1, hz2⟩ := info_parts info75
 subst hx
 rw [run_slice_l W 72 A n c sl67 .i64 (m : Int) (Int.natCast_nonneg _) (by omega), hel]
 simp [sizeOf, typeInfo, hi0, hz1, sliced, Result.andThen]
theorem cut_hi (A : Option Addr) (n c m : Nat) (hm : m ≤ c) (x : Int) (hx : x = m) (W : World) : (Instr.slice 72 (.slice A n c) none (some (.int .i64 x)) none).run Tryz.prog W = .ok (.slice A m c) W := by
 have hel : Tryz.prog.elem 72 = 75 := by simp [Program.elem, Tryz.underlying72]
 obtain ⟨i0, hi0, hz0, hz1, hz2⟩ := info_parts info75
 subst hx
 rw [run_slice_h W 72 A n c sl67 .i64 (m : Int) (Int.natCast_nonneg _) (by omega), hel]
 have : A.map (fun a => a.add 0) = A := by
  cases A with
  | none => rfl
  | some a => simp [Addr.add]
 simp [sizeOf, typeInfo, hi0, hz1, sliced, Result.andThen, this]
set_option maxRecDepth 100000 in
set_option maxHeartbeats 4000000 in
theorem postroadref06_put.calls (k : Nat) (A0 : Option Addr) (c0 : Nat) (l0 : List (S75)) (a1_0 : Int) (a1_1 : Int) (a1_2 : Int) (r : List (S75)) (w : World) (hr0 : Kd.C k75 w A0 l0.length l0) (hc0 : l0.length ≤ c0) (h : postroadref06_put.f k l0 a1_0 a1_1 a1_2 = some r) :
  Calls Tryz.prog 134 #[.slice A0 l0.length c0, .agg #[.int .i64 a1_0, .int .i64 a1_1, .int .i64 a1_2]] w fun e w' => ∃ v0_ : Value, e = .returned (v0_) ∧ Kd.R k75 75 w' w.heap.size (fun _ => True) v0_ r ∧ Below w.heap.size w w' := by
 have hlt : l0.length < 1000000 := by
  unfold postroadref06_put.f at h
  by_cases hh : l0.length < 1000000
  ·exact hh
  ·rw [if_neg hh] at h; cases h
 have HR : Hid (insE l0 ⟨a1_0, a1_1, a1_2⟩ = r) := Lib.hid (by
  unfold postroadref06_put.f at h
  rw [if_pos hlt] at h
  exact Option.some.inj h)
 have HC := Lib.hid hr0
 have hl64 : l0.length ≤ 9223372036854775807 := by omega
 clear h
 obtain ⟨len, hlen⟩ : ∃ len, l0.length = len := ⟨_, rfl⟩
 have HLEN := Lib.hid hlen
 rw [hlen] at hlt hl64 hc0 HC ⊢
 clear hr0 hlen
 have HB0 : Hid (Below w.heap.size w (w.alloc (.cells #[.int .i64 a1_0, .int .i64 a1_1, .int .i64 a1_2] 75))) := Lib.hid ((Below.refl _ _).alloc (Nat.le_refl _) _)
 have HX0 := Lib.hid (blk_new w (.cells #[.int .i64 a1_0, .int .i64 a1_1, .int .i64 a1_2] 75))
 go_enter Tryz.func134, Tryz.ntmps134
 go_wp2_with fail
 generalize w.alloc (.cells #[.int .i64 a1_0, .int .i64 a1_1, .int .i64 a1_2] 75) = W1 at *
 go_loopw [5] (fun v5 wr => ∃ k : Nat, v5 = .int .i64 k ∧ k ≤ len ∧ Hid (Below w.heap.size w wr) ∧ Hid (wr.heap[w.heap.size]? = some (.cells #[.int .i64 a1_0, .int .i64 a1_1, .int .i64 a1_2] 75 (0, 0))) ∧ Hid (∀ j : Nat, j < k → (rd_T75 l0 (j : Int)).f0 < a1_0)) (fun v5 _ => len - (intOf v5).toNat)
 case atStart => exact ⟨0, rfl, by omega, HB0, HX0, Lib.hid (fun j hj => by omega)⟩
 case round =>
  obtain ⟨k, rfl, hk, HB, HX, HS⟩ := hrel
  clear HB0 HX0
  have x0 : wr.cell? ⟨w.heap.size, 0, none⟩ = some (.int .i64 a1_0) := (blk_cell HX.out 0).trans rfl
  have x1 : wr.cell? ⟨w.heap.size, 1, none⟩ = some (.int .i64 a1_1) := (blk_cell HX.out 1).trans rfl
  have x2 : wr.cell? ⟨w.heap.size, 2, none⟩ = some (.int .i64 a1_2) := (blk_cell HX.out 2).trans rfl
  have hi0 : (0 : Int) ≤ (k : Int) := Int.natCast_nonneg _
  by_cases hkl : k < len
  ·have hi1 : (k : Int) < (len : Int) := by omega
   have d0 : decide ((k : Int) < (len : Int)) = true := by simpa using hi1
   have d1 : decide (k < len) = true := by simpa using hkl
   obtain ⟨ad, hA, r0, _, _⟩ := at_T75 (Kd.C_below HC.out HB.out) (k : Int) (by omega) (by omega)
   simp only [Int.toNat_natCast] at r0
   obtain ⟨q, hq⟩ : ∃ q, (rd_T75 l0 (k : Int)).f0 = q := ⟨_, rfl⟩
   have HQ := Lib.hid hq
   rw [hq] at r0
   subst hA
   clear hq
   by_cases hqa : q < a1_0
   ·have e1 : decide (q < a1_0) = true := by simpa using hqa
    have HS2 : Hid (∀ j : Nat, j < k + 1 → (rd_T75 l0 (j : Int)).f0 < a1_0) := Lib.hid (fun j hj => by
     rcases Nat.lt_or_ge j k with h | h
     ·exact HS.out j h
     ·have : j = k := by omega
      subst this; rw [HQ.out]; exact hqa)
    clear hqa HS
    go_wp2_with fail
    go_region
    go_wp2_with fail
    go_roundw
    case measure => simp [intOf]; omega
    case rel => exact ⟨k + 1, by go_num, by omega, Lib.hid HB.out.drew, Lib.hid HX.out, HS2⟩
   ·have e1 : decide (q < a1_0) = false := by simpa using hqa
    have HI : Hid (l0.take k ++ [(⟨a1_0, a1_1, a1_2⟩ : S75)] ++ l0.drop k = r) := Lib.hid (by
     rw [← HR.out]
     exact insE_at _ l0 k (by rw [HLEN.out]; omega) HS.out (.inr (by rw [HQ.out]; exact hqa)))
    clear hqa HS HR
    go_wp2_with fail
    go_region
    go_upto_region 5 with fail
    have HB5 := Lib.hid HB.out.drew
    have HX5 : Hid (wr.drew.heap[w.heap.size]? = some (.cells #[.int .i64 a1_0, .int .i64 a1_1, .int .i64 a1_2] 75 (0, 0))) := Lib.hid HX.out
    clear HB HX x0 x1 x2 r0
    generalize wr.drew = W5 at *
    have hs1 := fun W => cut_hi (some ad) len c0 k (by omega) (k : Int) rfl W
    have hs2 := fun W => cut_lo (some ad) len c0 k (by omega) (k : Int) rfl W
    obtain ⟨AL, hAL⟩ : ∃ AL, (if c0 = k then (some ad) else ((some ad)).map (·.add (k * 3))) = AL := ⟨_, rfl⟩
    have HT : Hid (∀ W, Below w.heap.size w W → Kd.C k75 W (some ad) k (l0.take k) ∧ Kd.C k75 W AL (len - k) (l0.drop k)) := Lib.hid (fun W g => by
     have hc : Kd.C k75 W (some ad) l0.length l0 := by rw [HLEN.out]; exact Kd.C_below HC.out g
     have h1 := Kd.C_take hc (m := k) (by rw [HLEN.out]; omega)
     have h2 := Kd.C_drop hc (m := k) (c := c0) (by rw [HLEN.out]; omega) (by rw [HLEN.out]; omega)
     have e1 : (l0.take k).length = k := by rw [List.length_take, HLEN.out]; omega
     have e2 : (l0.drop k).length = len - k := by rw [List.length_drop, HLEN.out]
     rw [e1] at h1
     rw [e2] at h2
     rw [← hAL]
     exact ⟨h1, h2⟩)
    have HLT : Hid ((l0.take k).length = k ∧ (l0.drop k).length = len - k) := Lib.hid ⟨by rw [List.length_take, HLEN.out]; omega, by rw [List.length_drop, HLEN.out]⟩
    rw [hAL] at hs2
    clear hAL
    generalize l0.take k = t1 at *
    generalize l0.drop k = t2 at *
    have ht1 : t1.length = k := HLT.out.1
    have ht2 : t2.length = len - k := HLT.out.2
    clear HLT
    obtain ⟨lk, hlk⟩ : ∃ lk, len - k = lk := ⟨_, rfl⟩
    obtain ⟨ck, hck⟩ : ∃ ck, c0 - k = ck := ⟨_, rfl⟩
    rw [hlk] at HT ht2 hs2
    rw [hck] at hs2
    have hkm : lk < 1000000 := by omega
    have hk6 : k < 1000000 := by omega
    clear hlk hck
    go_upto_region 6 with (at_builtin; refine Kd.R_append_rows k75 (w0 := w) (Rr := k75.K W5) w.heap.size rfl (.tmp 23) (.tmp 26) 72 75 (.agg #[(.int .i64 0), (.int .i64 0), (.int .i64 0)]) 24 rfl Tryz.underlying72 info75 rfl (by decide) (by omega) (.slice none 0 0) [] t1 (some ad) k c0 (fun _ => True) (fun _ => False) rfl rfl (Kd.R_nil _ _ _ _ _) (HT.out W5 HB5.out).1 (fun x cs h => by obtain rfl := k75_open h; exact k75_mkM _ _ _ _) (fun _ h => h.elim) (fun _ _ => trivial) HB5.out HB5.out.size (by simp only [List.length_nil]; omega) ?_; intro v6 w6 hR hB hg _; have HR6 := Lib.hid hR; have HB6 := Lib.hid hB; have HX6 : Hid (w6.heap[w.heap.size]? = some (.cells #[.int .i64 a1_0, .int .i64 a1_1, .int .i64 a1_2] 75 (0, 0))) := Lib.hid ((hg.block _ (blk_lt HX5.out) (by simp [Value.ownBlock])).trans HX5.out); clear hR hB hg)
    have y0 : w6.cell? ⟨w.heap.size, 0, none⟩ = some (.int .i64 a1_0) := (blk_cell HX6.out 0).trans rfl
    have y1 : w6.cell? ⟨w.heap.size, 1, none⟩ = some (.int .i64 a1_1) := (blk_cell HX6.out 1).trans rfl
    have y2 : w6.cell? ⟨w.heap.size, 2, none⟩ = some (.int .i64 a1_2) := (blk_cell HX6.out 2).trans rfl
    have hls : ([] ++ t1 : List S75).length < 1000000 := by simp only [List.nil_append]; omega
    go_upto_region 7 with (at_builtin; refine Kd.R_append k75 (w0 := w) (W := w6) w.heap.size rfl (.tmp 28) (.tmp 30) 72 75 (.agg #[(.int .i64 0), (.int .i64 0), (.int .i64 0)]) 24 rfl Tryz.underlying72 info75 rfl (by decide) (by omega) _ ([] ++ t1) (⟨a1_0, a1_1, a1_2⟩ : S75) [.int .i64 a1_0, .int .i64 a1_1, .int .i64 a1_2] (fun _ => True) (fun _ => False) rfl rfl (k75_mkM _ _ _ (⟨a1_0, a1_1, a1_2⟩ : S75)) (fun _ h => h.elim) (fun _ _ => trivial) HR6.out HB6.out HB6.out.size (by omega) ?_; intro v7 w7 hR hB hg _; have HR7 := Lib.hid hR; have HB7 := Lib.hid hB; clear hR hB hg)
    clear y0 y1 y2 HR6 HB6 HX6
    have hls7 : ([] ++ t1 ++ [(⟨a1_0, a1_1, a1_2⟩ : S75)]).length < 1000002 := by simp only [List.length_append, List.length_singleton, List.length_nil]; omega
    go_wp2_with (at_builtin; refine Kd.R_append_rows k75 (w0 := w) (Rr := k75.K w7) w.heap.size rfl (.tmp 32) (.tmp 35) 72 75 (.agg #[(.int .i64 0), (.int .i64 0), (.int .i64 0)]) 24 rfl Tryz.underlying72 info75 rfl (by decide) (by omega) _ ([] ++ t1 ++ [(⟨a1_0, a1_1, a1_2⟩ : S75)]) t2 AL lk ck (fun _ => True) (fun _ => False) rfl rfl HR7.out (HT.out w7 HB7.out).2 (fun x cs h => by obtain rfl := k75_open h; exact k75_mkM _ _ _ _) (fun _ h => h.elim) (fun _ _ => trivial) HB7.out HB7.out.size (by omega) ?_; intro v8 w8 hR hB hg _; have HR8 := Lib.hid hR; have HB8 := Lib.hid hB; clear hR hB hg)
    all_goals (try rw [Exit.noGoto_ret])
    all_goals go_ret
    all_goals exact ⟨_, rfl, by have h8 := HR8.out; have hi := HI.out; rw [List.nil_append] at h8; rw [hi] at h8; exact h8, HB8.out⟩
  ·have hkn : len ≤ k := by omega
   have hnd : ¬ (k : Int) < (len : Int) := by omega
   have d0 : decide ((k : Int) < (len : Int)) = false := by simpa using hnd
   have d1 : decide (k < len) = false := by simpa using hkl
   have HI : Hid (l0.take k ++ [(⟨a1_0, a1_1, a1_2⟩ : S75)] ++ l0.drop k = r) := Lib.hid (by
    rw [← HR.out]
    exact insE_at _ l0 k (by rw [HLEN.out]; omega) HS.out (.inl (by rw [HLEN.out]; omega)))
   clear HS HR
   go_wp2_with fail
   go_region
   go_upto_region 5 with fail
   have HB5 := Lib.hid HB.out.drew
   have HX5 : Hid (wr.drew.heap[w.heap.size]? = some (.cells #[.int .i64 a1_0, .int .i64 a1_1, .int .i64 a1_2] 75 (0, 0))) := Lib.hid HX.out
   clear HB HX x0 x1 x2 
   generalize wr.drew = W5 at *
   have hs1 := fun W => cut_hi A0 len c0 k (by omega) (k : Int) rfl W
   have hs2 := fun W => cut_lo A0 len c0 k (by omega) (k : Int) rfl W
   obtain ⟨AL, hAL⟩ : ∃ AL, (if c0 = k then A0 else (A0).map (·.add (k * 3))) = AL := ⟨_, rfl⟩
   have HT : Hid (∀ W, Below w.heap.size w W → Kd.C k75 W A0 k (l0.take k) ∧ Kd.C k75 W AL (len - k) (l0.drop k)) := Lib.hid (fun W g => by
    have hc : Kd.C k75 W A0 l0.length l0 := by rw [HLEN.out]; exact Kd.C_below HC.out g
    have h1 := Kd.C_take hc (m := k) (by rw [HLEN.out]; omega)
    have h2 := Kd.C_drop hc (m := k) (c := c0) (by rw [HLEN.out]; omega) (by rw [HLEN.out]; omega)
    have e1 : (l0.take k).length = k := by rw [List.length_take, HLEN.out]; omega
    have e2 : (l0.drop k).length = len - k := by rw [List.length_drop, HLEN.out]
    rw [e1] at h1
    rw [e2] at h2
    rw [← hAL]
    exact ⟨h1, h2⟩)
   have HLT : Hid ((l0.take k).length = k ∧ (l0.drop k).length = len - k) := Lib.hid ⟨by rw [List.length_take, HLEN.out]; omega, by rw [List.length_drop, HLEN.out]⟩
   rw [hAL] at hs2
   clear hAL
   generalize l0.take k = t1 at *
   generalize l0.drop k = t2 at *
   have ht1 : t1.length = k := HLT.out.1
   have ht2 : t2.length = len - k := HLT.out.2
   clear HLT
   obtain ⟨lk, hlk⟩ : ∃ lk, len - k = lk := ⟨_, rfl⟩
   obtain ⟨ck, hck⟩ : ∃ ck, c0 - k = ck := ⟨_, rfl⟩
   rw [hlk] at HT ht2 hs2
   rw [hck] at hs2
   have hkm : lk < 1000000 := by omega
   have hk6 : k < 1000000 := by omega
   clear hlk hck
   go_upto_region 6 with (at_builtin; refine Kd.R_append_rows k75 (w0 := w) (Rr := k75.K W5) w.heap.size rfl (.tmp 23) (.tmp 26) 72 75 (.agg #[(.int .i64 0), (.int .i64 0), (.int .i64 0)]) 24 rfl Tryz.underlying72 info75 rfl (by decide) (by omega) (.slice none 0 0) [] t1 A0 k c0 (fun _ => True) (fun _ => False) rfl rfl (Kd.R_nil _ _ _ _ _) (HT.out W5 HB5.out).1 (fun x cs h => by obtain rfl := k75_open h; exact k75_mkM _ _ _ _) (fun _ h => h.elim) (fun _ _ => trivial) HB5.out HB5.out.size (by simp only [List.length_nil]; omega) ?_; intro v6 w6 hR hB hg _; have HR6 := Lib.hid hR; have HB6 := Lib.hid hB; have HX6 : Hid (w6.heap[w.heap.size]? = some (.cells #[.int .i64 a1_0, .int .i64 a1_1, .int .i64 a1_2] 75 (0, 0))) := Lib.hid ((hg.block _ (blk_lt HX5.out) (by simp [Value.ownBlock])).trans HX5.out); clear hR hB hg)
   have y0 : w6.cell? ⟨w.heap.size, 0, none⟩ = some (.int .i64 a1_0) := (blk_cell HX6.out 0).trans rfl
   have y1 : w6.cell? ⟨w.heap.size, 1, none⟩ = some (.int .i64 a1_1) := (blk_cell HX6.out 1).trans rfl
   have y2 : w6.cell? ⟨w.heap.size, 2, none⟩ = some (.int .i64 a1_2) := (blk_cell HX6.out 2).trans rfl
   have hls : ([] ++ t1 : List S75).length < 1000000 := by simp only [List.nil_append]; omega
   go_upto_region 7 with (at_builtin; refine Kd.R_append k75 (w0 := w) (W := w6) w.heap.size rfl (.tmp 28) (.tmp 30) 72 75 (.agg #[(.int .i64 0), (.int .i64 0), (.int .i64 0)]) 24 rfl Tryz.underlying72 info75 rfl (by decide) (by omega) _ ([] ++ t1) (⟨a1_0, a1_1, a1_2⟩ : S75) [.int .i64 a1_0, .int .i64 a1_1, .int .i64 a1_2] (fun _ => True) (fun _ => False) rfl rfl (k75_mkM _ _ _ (⟨a1_0, a1_1, a1_2⟩ : S75)) (fun _ h => h.elim) (fun _ _ => trivial) HR6.out HB6.out HB6.out.size (by omega) ?_; intro v7 w7 hR hB hg _; have HR7 := Lib.hid hR; have HB7 := Lib.hid hB; clear hR hB hg)
   clear y0 y1 y2 HR6 HB6 HX6
   have hls7 : ([] ++ t1 ++ [(⟨a1_0, a1_1, a1_2⟩ : S75)]).length < 1000002 := by simp only [List.length_append, List.length_singleton, List.length_nil]; omega
   go_wp2_with (at_builtin; refine Kd.R_append_rows k75 (w0 := w) (Rr := k75.K w7) w.heap.size rfl (.tmp 32) (.tmp 35) 72 75 (.agg #[(.int .i64 0), (.int .i64 0), (.int .i64 0)]) 24 rfl Tryz.underlying72 info75 rfl (by decide) (by omega) _ ([] ++ t1 ++ [(⟨a1_0, a1_1, a1_2⟩ : S75)]) t2 AL lk ck (fun _ => True) (fun _ => False) rfl rfl HR7.out (HT.out w7 HB7.out).2 (fun x cs h => by obtain rfl := k75_open h; exact k75_mkM _ _ _ _) (fun _ h => h.elim) (fun _ _ => trivial) HB7.out HB7.out.size (by omega) ?_; intro v8 w8 hR hB hg _; have HR8 := Lib.hid hR; have HB8 := Lib.hid hB; clear hR hB hg)
   all_goals (try rw [Exit.noGoto_ret])
   all_goals go_ret
   all_goals exact ⟨_, rfl, by have h8 := HR8.out; have hi := HI.out; rw [List.nil_append] at h8; rw [hi] at h8; exact h8, HB8.out⟩
def outG (A : List S85) (K : List Int) (v : Int) : Nat → List S75
 | 0 => []
 | i + 1 => if rd K (i : Int) = 1 ∧ (rd_T85 A (i : Int)).f0 = v then insE (outG A K v i) ⟨(rd_T85 A (i : Int)).f1, (rd_T85 A (i : Int)).f2, (i : Int)⟩ else outG A K v i
theorem outG_len (A : List S85) (K : List Int) (v : Int) : ∀ i, (outG A K v i).length ≤ i
 | 0 => Nat.le_refl _
 | i + 1 => by
  have ih := outG_len A K v i
  simp only [outG]
  split
  ·rw [insE_len]; omega
  ·omega
theorem outG_mem (A : List S85) (K : List Int) (v : Int) (y : S75) : ∀ i, y ∈ outG A K v i ↔ ∃ q : Nat, q < i ∧ rd K (q : Int) = 1 ∧ (rd_T85 A (q : Int)).f0 = v ∧ y = ⟨(rd_T85 A (q : Int)).f1, (rd_T85 A (q : Int)).f2, (q : Int)⟩
 | 0 => ⟨fun h => by simp [outG] at h, fun ⟨q, h, _⟩ => by omega⟩
 | i + 1 => by
  have ih := outG_mem A K v y i
  have low : (∃ q : Nat, q < i ∧ rd K (q : Int) = 1 ∧ (rd_T85 A (q : Int)).f0 = v ∧ y = ⟨(rd_T85 A (q : Int)).f1, (rd_T85 A (q : Int)).f2, (q : Int)⟩) → ∃ q : Nat, q < i + 1 ∧ rd K (q : Int) = 1 ∧ (rd_T85 A (q : Int)).f0 = v ∧ y = ⟨(rd_T85 A (q : Int)).f1, (rd_T85 A (q : Int)).f2, (q : Int)⟩ := fun ⟨q, h, r⟩ => ⟨q, by omega, r⟩
  simp only [outG]
  split
  ·rename_i h
   rw [mem_insE, ih]
   constructor
   ·rintro (h1 | h1)
    ·exact ⟨i, by omega, h.1, h.2, h1⟩
    ·exact low h1
   ·rintro ⟨q, h1, h2, h3, h4⟩
    rcases Nat.lt_or_ge q i with h5 | h5
    ·exact .inr ⟨q, h5, h2, h3, h4⟩
    ·obtain rfl : q = i := by omega
     exact .inl h4
  ·rename_i h
   rw [ih]
   refine ⟨low, fun ⟨q, h1, h2, h3, h4⟩ => ⟨q, ?_, h2, h3, h4⟩⟩
   rcases Nat.lt_or_ge q i with h5 | h5
   ·exact h5
   ·obtain rfl : q = i := by omega
    exact absurd ⟨h2, h3⟩ h
theorem put_walk' (w : World) (Y : Option Addr) (z : Nat) (l : List S75) (a b c : Int) (hC : Kd.C k75 w Y l.length l) (hz : l.length ≤ z) (hl : l.length < 1000000) :
  Calls Tryz.prog 134 #[.slice Y l.length z, .agg #[.int .i64 a, .int .i64 b, .int .i64 c]] w fun e w' => ∃ v, e = .returned v ∧ Kd.R k75 75 w' w.heap.size (fun _ => True) v (insE l ⟨a, b, c⟩) ∧ Below w.heap.size w w' :=
 postroadref06_put.calls 0 Y z l a b c _ w hC hz (by unfold postroadref06_put.f; rw [if_pos hl])
set_option maxRecDepth 100000 in
set_option maxHeartbeats 4000000 in
theorem out_walk (w : World) (n : Nat) (A : List S85) (K : List Int) (Aa Ak : Option Addr) (ca ck : Nat) (hC : Kd.C k85 w Aa A.length A) (hca : A.length ≤ ca) (hK : Kd.C (Kd.int .i64) w Ak K.length K) (hck : K.length ≤ ck) (hkl : K.length = A.length) (hfew : A.length ≤ 40) (v : Int) :
  Calls Tryz.prog 110 #[.agg #[.int .i64 n, .slice Aa A.length ca, .slice Ak K.length ck], .int .i64 v] w fun r w' => ∃ x, r = .returned x ∧ Kd.R k75 75 w' w.heap.size (fun _ => True) x (outG A K v K.length) ∧ Below w.heap.size w w' := by
 have HC := Lib.hid hC
 have HK := Lib.hid hK
 rw [hkl] at HK hck ⊢
 clear hC hK hkl
 generalize A.length = len at *
 have HB0 : Hid (Below w.heap.size w (w.alloc (.cells #[.int .i64 n, .slice Aa len ca, .slice Ak len ck] 77))) := Lib.hid ((Below.refl _ _).alloc (Nat.le_refl _) _)
 have HX0 := Lib.hid (blk_new w (.cells #[.int .i64 n, .slice Aa len ca, .slice Ak len ck] 77))
 go_enter Tryz.func110, Tryz.ntmps110
 go_upto_region 2 with fail
 generalize w.alloc (.cells #[.int .i64 n, .slice Aa len ca, .slice Ak len ck] 77) = W1 at *
 go_wp2_with fail
 go_loopw [5, 6] (fun v5 v6 wr => ∃ i : Nat, v6 = .int .i64 i ∧ i ≤ len ∧ Hid (Kd.R k75 75 wr w.heap.size (fun _ => True) v5 (outG A K v i)) ∧ Hid (Below W1.heap.size W1 wr)) (fun _ v6 _ => len - (intOf v6).toNat)
 case atStart => exact ⟨0, rfl, by omega, Lib.hid (Kd.R_nil _ _ _ _ _), Lib.hid (Below.refl _ _)⟩
 case round =>
  obtain ⟨i, rfl, hi, HR, HG⟩ := hrel
  have HXr := Lib.hid ((HG.out.block _ (blk_lt HX0.out)).trans HX0.out)
  have c1 := (blk_cell HXr.out 1).trans rfl
  have c2 := (blk_cell HXr.out 2).trans rfl
  have cl := blk_lt HXr.out
  have hwr : w.heap.size ≤ wr.heap.size := Nat.le_trans HB0.out.size HG.out.size
  by_cases hlt : i < len
  rotate_left
  ·have hil : len ≤ i := by omega
   have HI : Hid (i = len) := Lib.hid (by omega)
   go_wp2_with fail
   go_ret
   exact ⟨_, rfl, by rw [← HI.out]; exact HR.out, HB0.out.trans (HG.out.mono HB0.out.size)⟩
  obtain ⟨ak, hA1, q0⟩ := Kd.at_int (Kd.C_below HK.out (HB0.out.trans (HG.out.mono HB0.out.size))) (i : Int) (by omega) (by omega)
  obtain ⟨ad, hA2, r0, r1, r2⟩ := at_T85 (Kd.C_below HC.out (HB0.out.trans (HG.out.mono HB0.out.size))) (i : Int) (by omega) (by omega)
  have HOG : Hid (outG A K v (i + 1) = if rd K (i : Int) = 1 ∧ (rd_T85 A (i : Int)).f0 = v then insE (outG A K v i) ⟨(rd_T85 A (i : Int)).f1, (rd_T85 A (i : Int)).f2, (i : Int)⟩ else outG A K v i) := Lib.hid rfl
  have hol := outG_len A K v i
  simp only [Int.toNat_natCast] at r0 r1 r2 q0
  generalize rd_T85 A (i : Int) = e at *
  generalize rd K (i : Int) = kp at *
  obtain ⟨a, b, x⟩ := e
  simp only at r0 r1 r2 HOG
  have hi0 : (0 : Int) ≤ (i : Int) := Int.natCast_nonneg _
  have hi1 : (i : Int) < (len : Int) := by omega
  subst hA1 hA2
  by_cases h1 : kp = 1
  rotate_left
  ·have t0 : (kp == 1) = false := by simp [h1]
   have t1 : decide (kp = 1) = false := by simp [h1]
   have HO2 : Hid (outG A K v (i + 1) = outG A K v i) := Lib.hid (by rw [HOG.out, if_neg (fun h => h1 h.1)])
   go_wp2_with fail
   go_roundw
   case measure => simp [intOf]; omega
   case rel => exact ⟨i + 1, by go_num, by omega, by rw [HO2.out]; exact HR, HG⟩
  subst h1
  by_cases h2 : a = v
  rotate_left
  ·have t0 : (a == v) = false := by simp [h2]
   have t1 : decide (a = v) = false := by simp [h2]
   have HO2 : Hid (outG A K v (i + 1) = outG A K v i) := Lib.hid (by rw [HOG.out, if_neg (fun h => h2 h.2)])
   go_wp2_with fail
   go_roundw
   case measure => simp [intOf]; omega
   case rel => exact ⟨i + 1, by go_num, by omega, by rw [HO2.out]; exact HR, HG⟩
  have t0 : (a == v) = true := by simp [h2]
  have t1 : decide (a = v) = true := by simp [h2]
  have HO2 : Hid (outG A K v (i + 1) = insE (outG A K v i) ⟨b, x, (i : Int)⟩) := Lib.hid (by rw [HOG.out, if_pos ⟨rfl, h2⟩])
  obtain ⟨Y, z, hv, hz, hCY⟩ := Kd.R_reads HR.out
  have HCA := Lib.hid (put_walk' wr.drew Y z (outG A K v i) b x (i : Int) (Kd.C_below hCY (Below.refl _ _).drew) hz (by omega))
  clear hCY HOG
  generalize outG A K v i = O at *
  generalize O.length = ol at *
  subst hv
  go_upto_region 6 with fail
  have k1 : wr.cell? ⟨(ad.add (i * 3)).block, (ad.add (i * 3)).off + 1, none⟩ = some (.int .i64 b) := r1
  have k2 : wr.cell? ⟨(ad.add (i * 3)).block, (ad.add (i * 3)).off + 2, none⟩ = some (.int .i64 x) := r2
  refine start_ (n := 19) (S := fun w' => w'.cell? ⟨w.heap.size, 1, none⟩ = some (.slice (some ad) len ca) ∧ w'.cell? ⟨(ad.add (i * 3)).block, (ad.add (i * 3)).off + 1, none⟩ = some (.int .i64 b) ∧ w'.cell? ⟨(ad.add (i * 3)).block, (ad.add (i * 3)).off + 2, none⟩ = some (.int .i64 x)) (ds := [17]) (bA_ 19 0) (by kernel_rfl) rfl rfl ⟨c1, k1, k2⟩ (fun hHeld => ?_)
  refine p2_ 0 31 (bA_ 19 1) ?_
  refine p2_ 1 32 (bA_ 19 3) ?_
  refine p2_ 2 33 (bA_ 19 7) ?_
  refine p2_ 4 35 (bA_ 19 23) ?_
  refine p2_ 8 39 (bA_ 19 279) ?_
  refine p2_ 9 40 (bA_ 19 791) ?_
  refine p2_ 11 42 (bA_ 19 2839) ?_
  refine p2_ 15 46 (bA_ 19 35607) ?_
  refine t2_ 3 34 (bA_ 19 35615) hHeld ?_ (hy := by rintro w' ⟨s0, s1, s2⟩; go_simp; with_reducible rfl)
  refine p2_ 5 36 (bA_ 19 35647) ?_
  refine p2_ 6 37 (bA_ 19 35711) ?_
  refine t2_ 7 38 (bA_ 19 35839) hHeld ?_ (hy := by rintro w' ⟨s0, s1, s2⟩; go_simp; with_reducible rfl)
  refine t2_ 10 41 (bA_ 19 36863) hHeld ?_ (hy := by rintro w' ⟨s0, s1, s2⟩; go_simp; with_reducible rfl)
  refine p2_ 12 43 (bA_ 19 40959) ?_
  refine p2_ 13 44 (bA_ 19 49151) ?_
  refine t2_ 14 45 (bA_ 19 65535) hHeld ?_ (hy := by rintro w' ⟨s0, s1, s2⟩; go_simp; with_reducible rfl)
  refine p2_ 16 47 (bA_ 19 131071) ?_
  refine last_ (i := 17) (N := some 48) (bA_ 19 262143) rfl rfl (by kernel_rfl) (by decide) (fun K hK => ?_)
  refine g2_ Tryz.func134 #[.slice Y ol z, .agg #[.int .i64 b, .int .i64 x, .int .i64 i]] ?_
  with_reducible refine (HCA.out).mono ?_
  rintro e w7 ⟨v7, rfl, hR7, g7⟩
  refine ⟨_, rfl, ?_⟩
  have HR7 := Lib.hid (Kd.R_lower hR7 hwr)
  have HG7 := Lib.hid (HG.out.drew.trans (g7.mono HG.out.size))
  clear hR7 g7
  refine hK.out _ _ ?_
  clear hK K
  refine n2_ 48 ?_
  refine p2_ 18 5 (bA_ 19 524287) ?_
  refine done_ (by kernel_rfl) ?_
  go_wp2_with fail
  go_roundw
  case measure => simp [intOf]; omega
  case rel => exact ⟨i + 1, by go_num, by omega, by rw [HO2.out]; exact HR7, HG7⟩
def newG (A : List S85) (K : List Int) : Nat → List S156
 | 0 => []
 | v + 1 => newG A K v ++ (outG A K (v : Int) K.length).map (wOf (v : Int))
theorem newG_len (A : List S85) (K : List Int) (hk : K.length ≤ 40) : ∀ v, (newG A K v).length ≤ v * 40
 | 0 => Nat.le_refl _
 | v + 1 => by
  have ih := newG_len A K hk v
  have := outG_len A K (v : Int) K.length
  simp only [newG, List.length_append, List.length_map]
  omega
theorem newG_mem (A : List S85) (K : List Int) (y : S156) : ∀ v, y ∈ newG A K v ↔ ∃ q : Nat, q < K.length ∧ rd K (q : Int) = 1 ∧ 0 ≤ (rd_T85 A (q : Int)).f0 ∧ (rd_T85 A (q : Int)).f0 < v ∧ y = ⟨(rd_T85 A (q : Int)).f0, (rd_T85 A (q : Int)).f1, ⟨(rd_T85 A (q : Int)).f2, -1, (q : Int)⟩⟩
 | 0 => ⟨fun h => by simp [newG] at h, fun ⟨q, _, _, h1, h2, _⟩ => by omega⟩
 | v + 1 => by
  have ih := newG_mem A K y v
  simp only [newG, List.mem_append, List.mem_map]
  rw [ih]
  constructor
  ·rintro (⟨q, h1, h2, h3, h4, h5⟩ | ⟨e, he, rfl⟩)
   ·exact ⟨q, h1, h2, h3, by omega, h5⟩
   ·obtain ⟨q, h1, h2, h3, rfl⟩ := (outG_mem A K v e K.length).1 he
    exact ⟨q, h1, h2, by omega, by omega, by rw [h3]; rfl⟩
  ·rintro ⟨q, h1, h2, h3, h4, h5⟩
   by_cases e : (rd_T85 A (q : Int)).f0 = v
   ·exact .inr ⟨_, (outG_mem A K v _ K.length).2 ⟨q, h1, h2, e, rfl⟩, by rw [h5, e]; rfl⟩
   ·exact .inl ⟨q, h1, h2, h3, by omega, h5⟩
theorem newG_ok {n : Nat} {A : List S85} {K : List Int} (h : MapOk n A) (hk : K.length = A.length) : (newG A K n).length ≤ 480 ∧
  ∀ y, y ∈ newG A K n ↔ ∃ q : Nat, q < A.length ∧ rd K (q : Int) = 1 ∧ y = ⟨(rd_T85 A (q : Int)).f0, (rd_T85 A (q : Int)).f1, ⟨(rd_T85 A (q : Int)).f2, -1, (q : Int)⟩⟩ := by
 have h1 := h.n1
 have h2 := h.few
 have h3 := newG_len A K (by omega) n
 refine ⟨by omega, fun y => (newG_mem A K y n).trans ⟨fun ⟨q, a, b, _, _, e⟩ => ⟨q, by omega, b, e⟩, fun ⟨q, a, b, e⟩ => ?_⟩⟩
 have ha := h.arcs _ (rd79_mem a)
 exact ⟨q, by omega, b, ha.f0, ha.f1, e⟩
theorem rep_succ (v : Nat) (x : Int) : List.replicate v x ++ [x] = List.replicate (v + 1) x := List.replicate_succ'.symm
structure N8 (w W : World) (n : Nat) (Sa Sk vi vl vt : Value) (a b : Nat) (L : List S156) : Prop where
 gb : W.heap[w.heap.size]? = some (.cells #[.int .i64 n, Sa, Sk] 77 (0, 0))
 zb : W.heap[w.heap.size + 1]? = some (.cells #[.int .i64 0, .slice none 0 0, .slice none 0 0, .slice none 0 0] 121 (0, 0))
 tb : W.heap[w.heap.size + 1 + 1]? = some (.cells #[.int .i64 n, vi, vl, vt] 121 (0, 0))
 bel : Below w.heap.size w W
 ri : Kd.R (Kd.int .i64) 3 W w.heap.size (fun k => vt.ownBlock ≠ some k) vi (List.replicate a 1)
 rl : Kd.R k156 156 W w.heap.size (fun _ => True) vl L
 rt : Kd.R (Kd.int .i64) 3 W w.heap.size (fun k => vi.ownBlock ≠ some k) vt (List.replicate b 0)
theorem R_other {α : Type} {d : Kd α} {e b : Nat} {W w1 : World} {u v v1 : Value} {xs : List α} (h : Kd.R d e W b (fun k => u.ownBlock ≠ some k) v xs) (hg : W.grownBy w1 u.ownBlock) (hat : v1.ownBlock = u.ownBlock ∨ ∃ b, v1.ownBlock = some b ∧ W.heap.size ≤ b) : Kd.R d e w1 b (fun k => v1.ownBlock ≠ some k) v xs :=
 Kd.R_grown (Kd.R_mono (Kd.R_bound h) (fun k hk => (⟨hk.1, fun e => by
   rcases hat with ha | ⟨b, hb, hge⟩
   ·rw [ha] at e; exact hk.1 e
   ·rw [hb] at e; cases e; have := hk.2.2.1; omega⟩ : u.ownBlock ≠ some k ∧ v1.ownBlock ≠ some k))) hg (fun k hk e => hk.1 e.symm) |> fun r => Kd.R_mono r (fun k hk => hk.2)
section
variable {w W w2 W' : World} {n : Nat} {Sa Sk vi vl vt v1 : Value} {a b : Nat} {L L' : List S156}
theorem N8.below (h : N8 w W n Sa Sk vi vl vt a b L) (g : Below W.heap.size W W') : N8 w W' n Sa Sk vi vl vt a b L :=
 ⟨(g.block _ (blk_lt h.gb)).trans h.gb, (g.block _ (blk_lt h.zb)).trans h.zb, (g.block _ (blk_lt h.tb)).trans h.tb, h.bel.trans (g.mono h.bel.size), Kd.R_below h.ri g, Kd.R_below h.rl g, Kd.R_below h.rt g⟩
theorem N8.mid {α : Type} {d : Kd α} {e : Nat} {xs : List α} {ok : Nat → Prop} {g : Nat} {cs : Array Value} {t : Nat} {u : Value} (hr : Kd.R d e W w.heap.size ok u xs) (hg : W.grownBy w2 u.ownBlock) (hb : W.heap[g]? = some (.cells cs t (0, 0))) (ht : e ≠ t) : w2.heap[g]? = some (.cells cs t (0, 0)) := (hg.block g (blk_lt hb) (Kd.R_ne hr hb ht)).trans hb
theorem N8.appI (h : N8 w W n Sa Sk vi vl vt a b L) (hg : W.grownBy w2 vi.ownBlock) (hat : v1.ownBlock = vi.ownBlock ∨ ∃ b, v1.ownBlock = some b ∧ W.heap.size ≤ b) (hR : Kd.R (Kd.int .i64) 3 w2 w.heap.size (fun k => vt.ownBlock ≠ some k) v1 (List.replicate a 1 ++ [1])) (hB : Below w.heap.size w w2) : N8 w (w2.setCell ⟨w.heap.size + 1 + 1, 1, none⟩ v1) n Sa Sk v1 vl vt (a + 1) b L := by
 have m1 := N8.mid h.ri hg h.gb (by decide)
 have m2 := N8.mid h.ri hg h.zb (by decide)
 have m3 := N8.mid h.ri hg h.tb (by decide)
 rw [rep_succ] at hR
 exact ⟨(Below.heap_setCell w2 ⟨w.heap.size + 1 + 1, 1, none⟩ _ _ (by simp <;> omega)).trans m1, (Below.heap_setCell w2 ⟨w.heap.size + 1 + 1, 1, none⟩ _ _ (by simp <;> omega)).trans m2, blk_put m3 1 v1 rfl, hB.setCell (p := ⟨w.heap.size + 1 + 1, 1, none⟩) (by simp <;> omega) _, Kd.R_set hR m3 (by decide) 1 _, Kd.R_set (Kd.R_over h.rl h.ri (by decide) hg) m3 (by decide) 1 _, Kd.R_set (R_other h.rt hg hat) m3 (by decide) 1 _⟩
theorem N8.appT (h : N8 w W n Sa Sk vi vl vt a b L) (hg : W.grownBy w2 vt.ownBlock) (hat : v1.ownBlock = vt.ownBlock ∨ ∃ b, v1.ownBlock = some b ∧ W.heap.size ≤ b) (hR : Kd.R (Kd.int .i64) 3 w2 w.heap.size (fun k => vi.ownBlock ≠ some k) v1 (List.replicate b 0 ++ [0])) (hB : Below w.heap.size w w2) : N8 w (w2.setCell ⟨w.heap.size + 1 + 1, 3, none⟩ v1) n Sa Sk vi vl v1 a (b + 1) L := by
 have m1 := N8.mid h.rt hg h.gb (by decide)
 have m2 := N8.mid h.rt hg h.zb (by decide)
 have m3 := N8.mid h.rt hg h.tb (by decide)
 rw [rep_succ] at hR
 exact ⟨(Below.heap_setCell w2 ⟨w.heap.size + 1 + 1, 3, none⟩ _ _ (by simp <;> omega)).trans m1, (Below.heap_setCell w2 ⟨w.heap.size + 1 + 1, 3, none⟩ _ _ (by simp <;> omega)).trans m2, blk_put m3 3 v1 rfl, hB.setCell (p := ⟨w.heap.size + 1 + 1, 3, none⟩) (by simp <;> omega) _, Kd.R_set (R_other h.ri hg hat) m3 (by decide) 3 _, Kd.R_set (Kd.R_over h.rl h.rt (by decide) hg) m3 (by decide) 3 _, Kd.R_set hR m3 (by decide) 3 _⟩
theorem N8.appL (h : N8 w W n Sa Sk vi vl vt a b L) (hg : W.grownBy w2 vl.ownBlock) (hR : Kd.R k156 156 w2 w.heap.size (fun _ => True) v1 L') (hB : Below w.heap.size w w2) : N8 w (w2.setCell ⟨w.heap.size + 1 + 1, 2, none⟩ v1) n Sa Sk vi v1 vt a b L' := by
 have m1 := N8.mid h.rl hg h.gb (by decide)
 have m2 := N8.mid h.rl hg h.zb (by decide)
 have m3 := N8.mid h.rl hg h.tb (by decide)
 exact ⟨(Below.heap_setCell w2 ⟨w.heap.size + 1 + 1, 2, none⟩ _ _ (by simp <;> omega)).trans m1, (Below.heap_setCell w2 ⟨w.heap.size + 1 + 1, 2, none⟩ _ _ (by simp <;> omega)).trans m2, blk_put m3 2 v1 rfl, hB.setCell (p := ⟨w.heap.size + 1 + 1, 2, none⟩) (by simp <;> omega) _, Kd.R_set (Kd.R_over h.ri h.rl (by decide) hg) m3 (by decide) 2 _, Kd.R_set hR m3 (by decide) 2 _, Kd.R_set (Kd.R_over h.rt h.rl (by decide) hg) m3 (by decide) 2 _⟩
end
set_option maxRecDepth 100000 in
set_option maxHeartbeats 8000000 in
theorem new8_walk (w : World) (n : Nat) (A : List S85) (K : List Int) (Aa Ak : Option Addr) (ca ck : Nat) (hC : Kd.C k85 w Aa A.length A) (hca : A.length ≤ ca) (hK : Kd.C (Kd.int .i64) w Ak K.length K) (hck : K.length ≤ ck) (hkl : K.length = A.length) (hok : MapOk n A) :
  Calls Tryz.prog 76 #[.agg #[.int .i64 n, .slice Aa A.length ca, .slice Ak K.length ck]] w fun r w' => ∃ v1 v2 v3, r = .returned (.agg #[.int .i64 n, v1, v2, v3]) ∧ Kd.R (Kd.int .i64) 3 w' w.heap.size (fun _ => True) v1 (List.replicate n 1) ∧ Kd.R k156 156 w' w.heap.size (fun _ => True) v2 (newG A K n) ∧ Kd.R (Kd.int .i64) 3 w' w.heap.size (fun _ => True) v3 (List.replicate n 0) ∧ Below w.heap.size w w' := by
 have HOUT : Hid (∀ W, Below w.heap.size w W → ∀ v : Nat, Calls Tryz.prog 110 #[.agg #[.int .i64 n, .slice Aa A.length ca, .slice Ak K.length ck], .int .i64 v] W fun r w' => ∃ x, r = .returned x ∧ Kd.R k75 75 w' W.heap.size (fun _ => True) x (outG A K v K.length) ∧ Below W.heap.size W w') := Lib.hid (fun W g v => out_walk W n A K Aa Ak ca ck (Kd.C_below hC g) hca (Kd.C_below hK g) hck hkl hok.few v)
 have hn := hok.n1
 have hfew := hok.few
 have HLN : Hid (∀ v, (newG A K v).length ≤ v * 40) := Lib.hid (newG_len A K (by omega))
 have HOL : Hid (∀ v : Nat, (outG A K v K.length).length ≤ 40) := Lib.hid (fun v => Nat.le_trans (outG_len A K v K.length) (by omega))
 have HNG : Hid (∀ v : Nat, newG A K (v + 1) = newG A K v ++ (outG A K (v : Int) K.length).map (wOf (v : Int))) := Lib.hid (fun v => rfl)
 have HN0 : Hid (newG A K 0 = []) := Lib.hid rfl
 clear hC hK hca hck hkl hok
 generalize newG A K = NG at *
 generalize hOG : (fun v : Nat => outG A K v K.length) = OG
 have HOG : Hid (∀ v : Nat, outG A K v K.length = OG v) := Lib.hid (fun v => congrFun hOG v)
 clear hOG
 generalize Value.slice Aa A.length ca = Sa at *
 generalize Value.slice Ak K.length ck = Sk at *
 have HS : Hid (N8 w (((w.alloc (.cells #[.int .i64 n, Sa, Sk] 77)).alloc (.cells #[.int .i64 0, .slice none 0 0, .slice none 0 0, .slice none 0 0] 121)).alloc (.cells #[.int .i64 n, .slice none 0 0, .slice none 0 0, .slice none 0 0] 121)) n Sa Sk (.slice none 0 0) (.slice none 0 0) (.slice none 0 0) 0 0 []) := Lib.hid ⟨blk_alloc (blk_alloc (blk_new w _) _) _, blk_alloc (by have := blk_new (w.alloc (.cells #[.int .i64 n, Sa, Sk] 77)) (.cells #[.int .i64 0, .slice none 0 0, .slice none 0 0, .slice none 0 0] 121); rw [World.size_alloc] at this; exact this) _,
  by have := blk_new ((w.alloc (.cells #[.int .i64 n, Sa, Sk] 77)).alloc (.cells #[.int .i64 0, .slice none 0 0, .slice none 0 0, .slice none 0 0] 121)) (.cells #[.int .i64 n, .slice none 0 0, .slice none 0 0, .slice none 0 0] 121); rw [World.size_alloc, World.size_alloc] at this; exact this, (((Below.refl _ _).alloc (Nat.le_refl _) _).alloc (by simp) _).alloc (by simp; omega) _, Kd.R_nil _ _ _ _ _, Kd.R_nil _ _ _ _ _, Kd.R_nil _ _ _ _ _⟩
 have HP := Lib.hid (blk_alloc (blk_new w (.cells #[.int .i64 n, Sa, Sk] 77)) (.cells #[.int .i64 0, .slice none 0 0, .slice none 0 0, .slice none 0 0] 121))
 have p0 := (blk_cell HP.out 0).trans rfl
 have pl := blk_lt HP.out
 go_enter Tryz.func76, Tryz.ntmps76
 go_upto_region 2 with fail
 clear p0 pl HP
 generalize ((w.alloc (.cells #[.int .i64 n, Sa, Sk] 77)).alloc (.cells #[.int .i64 0, .slice none 0 0, .slice none 0 0, .slice none 0 0] 121)).alloc (.cells #[.int .i64 n, .slice none 0 0, .slice none 0 0, .slice none 0 0] 121) = W1 at *
 go_wp2_with fail
 go_loopw [4] (fun v4 wr => ∃ (v : Nat) (vi vl vt : Value), v4 = .int .i64 v ∧ v ≤ n ∧ Hid (N8 w wr n Sa Sk vi vl vt v v (NG v))) (fun v4 _ => n - (intOf v4).toNat)
 case atStart => exact ⟨0, _, _, _, rfl, by omega, by rw [HN0.out]; exact HS⟩
 case round =>
  obtain ⟨v, vi, vl, vt, rfl, hv, HN⟩ := hrel
  clear HS
  have c0 := (blk_cell HN.out.tb 0).trans rfl
  have cl := blk_lt HN.out.tb
  by_cases hlt : v < n
  rotate_left
  ·have HVN : Hid (v = n) := Lib.hid (by omega)
   have hle : n ≤ v := by omega
   obtain ⟨Y1, z1, hvi⟩ := Kd.R_slice HN.out.ri
   obtain ⟨Y2, z2, hvl⟩ := Kd.R_slice HN.out.rl
   obtain ⟨Y3, z3, hvt⟩ := Kd.R_slice HN.out.rt
   have c1 := (blk_cell HN.out.tb 1).trans rfl
   have c2 := (blk_cell HN.out.tb 2).trans rfl
   have c3 := (blk_cell HN.out.tb 3).trans rfl
   have z0 := (blk_cell HN.out.zb 0).trans rfl
   have z1' := (blk_cell HN.out.zb 1).trans rfl
   have z2' := (blk_cell HN.out.zb 2).trans rfl
   have z3' := (blk_cell HN.out.zb 3).trans rfl
   have zl := blk_lt HN.out.zb
   have zf : ∀ j, wr.frozen? ⟨w.heap.size + 1, j, none⟩ = false := fun j => blk_frozen HN.out.zb j
   have p0 := blk_put HN.out.zb 0 (.int .i64 n) (cs' := #[.int .i64 n, .slice none 0 0, .slice none 0 0, .slice none 0 0]) rfl
   have p1 := blk_put p0 1 vi (cs' := #[.int .i64 n, vi, .slice none 0 0, .slice none 0 0]) rfl
   have p2 := blk_put p1 2 vl (cs' := #[.int .i64 n, vi, vl, .slice none 0 0]) rfl
   have HP := Lib.hid (blk_put p2 3 vt (cs' := #[.int .i64 n, vi, vl, vt]) rfl)
   have hR : ∀ {α : Type} {d : Kd α} {e : Nat} {ok : Nat → Prop} {u : Value} {xs : List α}, Kd.R d e wr w.heap.size ok u xs → (∀ q ∈ e :: d.E, q ≠ 121) → Kd.R d e ((((wr.setCell ⟨w.heap.size + 1, 0, none⟩ (.int .i64 n)).setCell ⟨w.heap.size + 1, 1, none⟩ vi).setCell ⟨w.heap.size + 1, 2, none⟩ vl).setCell ⟨w.heap.size + 1, 3, none⟩ vt) w.heap.size (fun _ => True) u xs := fun h he => Kd.R_mono (Kd.R_set (Kd.R_set (Kd.R_set (Kd.R_set h HN.out.zb he 0 _) p0 he 1 _) p1 he 2 _) p2 he 3 _) (fun _ _ => trivial)
   have HRR := Lib.hid (And.intro (hR HN.out.ri (by decide)) (And.intro (hR HN.out.rl (by decide)) (hR HN.out.rt (by decide))))
   have HBE := Lib.hid ((((HN.out.bel.setCell (p := ⟨w.heap.size + 1, 0, none⟩) (by simp) (.int .i64 n)).setCell (p := ⟨w.heap.size + 1, 1, none⟩) (by simp) vi).setCell (p := ⟨w.heap.size + 1, 2, none⟩) (by simp) vl).setCell (p := ⟨w.heap.size + 1, 3, none⟩) (by simp) vt)
   rw [HVN.out] at HRR hvi hvl hvt
   generalize (List.replicate n (1 : Int)).length = l1 at hvi
   generalize (NG n).length = l2 at hvl
   generalize (List.replicate n (0 : Int)).length = l3 at hvt
   clear p0 p1 p2 hR HN HLN HOL HNG HN0 HOG HOUT
   subst hvi hvl hvt
   go_wp2_with fail
   all_goals (try rw [Exit.noGoto_ret])
   all_goals (refine bodyPost_ret (results_cell_row rfl _ _ (w.heap.size + 1) 121 #[.int .i64 n, .slice Y1 l1 z1, .slice Y2 l2 z2, .slice Y3 l3 z3] (0, 0) _ rfl HP.out Tryz.underlying121 rfl (by kernel_rfl)) rfl ?_)
   all_goals exact ⟨_, _, _, rfl, HRR.out.1, HRR.out.2.1, HRR.out.2.2, HBE.out⟩
  have c1 := (blk_cell HN.out.tb 1).trans rfl
  have hv0 : (0 : Int) ≤ (v : Int) := Int.natCast_nonneg _
  have hv1 : (v : Int) < (n : Int) := by omega
  have hll := HLN.out v
  have hr1 : (List.replicate v (1 : Int)).length = v := List.length_replicate
  have hr0 : (List.replicate v (0 : Int)).length = v := List.length_replicate
  go_upto_region 6 with (at_builtin; refine Kd.R_append (Kd.int .i64) (w0 := w) w.heap.size rfl (.tmp 18) (.tmp 19) 28 3 (.int .i64 0) 8 rfl Tryz.underlying28 info3 rfl (by decide) (by omega) vi (List.replicate v 1) 1 [.int .i64 1] (fun k => vt.ownBlock ≠ some k) (fun _ => False) rfl rfl rfl (fun _ h => h.elim) (fun k hk e => by have := Kd.R_lt HN.out.rt k e; omega) HN.out.ri HN.out.bel HN.out.bel.size (by omega) ?_; intro v7 w7 hR hB hg hat; obtain ⟨A9, c9, hv9⟩ := Kd.R_slice hR; generalize (List.replicate v (1 : Int) ++ [1]).length = m9 at hv9; subst hv9; have HN7 := Lib.hid (N8.appI HN.out hg hat hR hB); have hm := N8.mid HN.out.ri hg HN.out.tb (by decide); have d1 := (blk_cell hm 1).trans rfl; have dl := blk_lt hm; have df : ∀ j, w7.frozen? ⟨w.heap.size + 1 + 1, j, none⟩ = false := fun j => blk_frozen hm j; clear hR hB hg hat hm)
  generalize w7.setCell ⟨w.heap.size + 1 + 1, 1, none⟩ (.slice A9 m9 c9) = W7 at *
  generalize Value.slice A9 m9 c9 = vi7 at *
  clear c0 c1 cl d1 dl df
  have c3 := (blk_cell HN7.out.tb 3).trans rfl
  have cl := blk_lt HN7.out.tb
  go_upto_region 7 with (at_builtin; refine Kd.R_append (Kd.int .i64) (w0 := w) w.heap.size rfl (.tmp 23) (.tmp 24) 28 3 (.int .i64 0) 8 rfl Tryz.underlying28 info3 rfl (by decide) (by omega) vt (List.replicate v 0) 0 [.int .i64 0] (fun k => vi7.ownBlock ≠ some k) (fun _ => False) rfl rfl rfl (fun _ h => h.elim) (fun k hk e => by have := Kd.R_lt HN7.out.ri k e; omega) HN7.out.rt HN7.out.bel HN7.out.bel.size (by omega) ?_; intro v8 w8 hR hB hg hat; obtain ⟨A8, c8, hv8⟩ := Kd.R_slice hR; generalize (List.replicate v (0 : Int) ++ [0]).length = m8 at hv8; subst hv8; have HN9 := Lib.hid (N8.appT HN7.out hg hat hR hB); have hm := N8.mid HN7.out.rt hg HN7.out.tb (by decide); have d1 := (blk_cell hm 3).trans rfl; have dl := blk_lt hm; have df : ∀ j, w8.frozen? ⟨w.heap.size + 1 + 1, j, none⟩ = false := fun j => blk_frozen hm j; clear hR hB hg hat hm)
  generalize w8.setCell ⟨w.heap.size + 1 + 1, 3, none⟩ (.slice A8 m8 c8) = W9 at *
  generalize Value.slice A8 m8 c8 = vt9 at *
  clear c3 cl d1 dl df HN HN7
  have g0 := (blk_cell HN9.out.gb 0).trans rfl
  have g1 := (blk_cell HN9.out.gb 1).trans rfl
  have g2 := (blk_cell HN9.out.gb 2).trans rfl
  have gl := blk_lt HN9.out.gb
  have HCA := Lib.hid (HOUT.out W9 HN9.out.bel v)
  have hol := HOL.out v
  rw [HOG.out v] at HCA hol
  have HGV := HNG.out v
  rw [HOG.out v] at HGV
  have HGW := Lib.hid HGV
  clear HGV
  generalize OG v = O at *
  go_upto_region 8 with (first | (go_at_call 110; refine HCA.out.mono ?_; rintro e W10 ⟨x, rfl, hR, g⟩; have HRO := Lib.hid (Kd.R_lower hR HN9.out.bel.size); have HN10 := Lib.hid (HN9.out.below g); clear hR g))
  clear g0 g1 g2 gl HN9 HCA HOUT HOG
  obtain ⟨ol, hol'⟩ : ∃ ol, O.length = ol := ⟨_, rfl⟩
  obtain ⟨Y, z, hx, hz, _⟩ := Kd.R_reads HRO.out
  rw [hol'] at hx hz hol
  subst hx
  have HLO := Lib.hid hol'
  clear hol'
  generalize hL0 : NG v = L0 at *
  clear hL0
  go_wp2_with fail
  go_loopw [6] (fun v6 wr => ∃ (j : Nat) (vl : Value), v6 = .int .i64 j ∧ j ≤ ol ∧ Hid (N8 w wr n Sa Sk vi7 vl vt9 (v + 1) (v + 1) (L0 ++ (O.take j).map (wOf (v : Int)))) ∧ Hid (Kd.R k75 75 wr w.heap.size (fun _ => True) (.slice Y ol z) O)) (fun v6 _ => ol - (intOf v6).toNat)
  case atStart => exact ⟨0, _, rfl, by omega, by simpa using HN10, HRO⟩
  case round =>
   obtain ⟨j, vl2, rfl, hj, HN, HR⟩ := hrel
   clear HN10 HRO
   by_cases hjl : j < ol
   rotate_left
   ·have HE : Hid (O.take j = O) := Lib.hid (List.take_of_length_le (by have := HLO.out; omega))
    have hoj : ol ≤ j := by omega
    go_wp2_with fail
    go_roundw
    case measure => simp [intOf]; omega
    case rel => exact ⟨v + 1, _, _, _, by go_num, by omega, by rw [HGW.out, ← HE.out]; exact HN⟩
   obtain ⟨Y', z', hY', _, hCO⟩ := Kd.R_reads HR.out
   simp only [Value.slice.injEq] at hY'
   obtain ⟨rfl, _, rfl⟩ := hY'
   obtain ⟨al, hA2, r0, r1, r2⟩ := at_T75 hCO (j : Int) (by omega) (by have := HLO.out; omega)
   have HTK : Hid ((O.take (j + 1)).map (wOf (v : Int)) = (O.take j).map (wOf (v : Int)) ++ [wOf (v : Int) (rd_T75 O (j : Int))]) := Lib.hid (by
    have hjO : j < O.length := by have := HLO.out; omega
    rw [List.take_succ_eq_append_getElem hjO, List.map_append]
    simp [rd_T75, List.getD, hjO])
   unfold wOf at HTK
   simp only [Int.toNat_natCast] at r0 r1 r2
   generalize rd_T75 O (j : Int) = e at *
   obtain ⟨a, b, x⟩ := e
   simp only at r0 r1 r2 HTK
   have hKl : (L0 ++ (O.take j).map (wOf (v : Int))).length ≤ 1000 := by simp; omega
   generalize hacc : L0 ++ (O.take j).map (wOf (v : Int)) = acc at *
   have HACC : Hid (L0 ++ (O.take (j + 1)).map (wOf (v : Int)) = acc ++ [(⟨(v : Int), a, (⟨b, -1, x⟩ : S69)⟩ : S156)]) := Lib.hid (by rw [← hacc, List.append_assoc]; exact congrArg _ HTK.out)
   clear HTK hCO hacc
   have hj0 : (0 : Int) ≤ (j : Int) := Int.natCast_nonneg _
   have hj1 : (j : Int) < (ol : Int) := by omega
   have hv3 : v < 1000 := by omega
   subst hA2
   go_upto_region 11 with fail
   have c2 := (blk_cell HN.out.tb 2).trans rfl
   have k1 : wr.cell? ⟨(al.add (j * 3)).block, (al.add (j * 3)).off + 1, none⟩ = some (.int .i64 b) := r1
   have k2 : wr.cell? ⟨(al.add (j * 3)).block, (al.add (j * 3)).off + 2, none⟩ = some (.int .i64 x) := r2
   have HND : Hid (N8 w wr.drew n Sa Sk vi7 vl2 vt9 (v + 1) (v + 1) acc) := Lib.hid (HN.out.below (Below.refl _ _).drew)
   refine start_ (n := 24) (S := fun w' => w'.cell? ⟨w.heap.size + 1 + 1, 2, none⟩ = some vl2 ∧ w'.cell? (al.add (j * 3)) = some (.int .i64 a) ∧ w'.cell? ⟨(al.add (j * 3)).block, (al.add (j * 3)).off + 1, none⟩ = some (.int .i64 b) ∧ w'.cell? ⟨(al.add (j * 3)).block, (al.add (j * 3)).off + 2, none⟩ = some (.int .i64 x)) (ds := [21, 23]) (bA_ 24 0) (by kernel_rfl) rfl rfl ⟨c2, r0, k1, k2⟩ (fun hHeld => ?_)
   refine p2_ 0 36 (bA_ 24 1) ?_
   refine p2_ 2 38 (bA_ 24 5) ?_
   refine p2_ 3 39 (bA_ 24 13) ?_
   refine p2_ 4 40 (bA_ 24 29) ?_
   refine p2_ 5 41 (bA_ 24 61) ?_
   refine p2_ 6 42 (bA_ 24 125) ?_
   refine p2_ 8 44 (bA_ 24 381) ?_
   refine p2_ 9 45 (bA_ 24 893) ?_
   refine p2_ 10 46 (bA_ 24 1917) ?_
   refine p2_ 11 47 (bA_ 24 3965) ?_
   refine p2_ 13 49 (bA_ 24 12157) ?_
   refine p2_ 14 50 (bA_ 24 28541) ?_
   refine p2_ 15 51 (bA_ 24 61309) ?_
   refine p2_ 16 52 (bA_ 24 126845) ?_
   refine t2_ 1 37 (bA_ 24 126847) hHeld ?_ (hy := by rintro w' ⟨s0, s1, s2, s3⟩; go_simp; with_reducible rfl)
   refine t2_ 7 43 (bA_ 24 126975) hHeld ?_ (hy := by rintro w' ⟨s0, s1, s2, s3⟩; go_simp; with_reducible rfl)
   refine t2_ 12 48 (bA_ 24 131071) hHeld ?_ (hy := by rintro w' ⟨s0, s1, s2, s3⟩; go_simp; with_reducible rfl)
   refine t2_ 17 53 (bA_ 24 262143) hHeld ?_ (hy := by rintro w' ⟨s0, s1, s2, s3⟩; go_simp; with_reducible rfl)
   refine p2_ 18 54 (bA_ 24 524287) ?_
   refine p2_ 19 55 (bA_ 24 1048575) ?_
   refine o2_ 20 56 (bA_ 24 2097151) (fun K hK => ?_)
   refine value_ (w1 := ?_) (v := ?_) (by rfl) rfl ?_ ?_
   rotate_left 2
   ·go_simp
    constructor
    ·rfl
    ·rfl
   refine hK.out _ _ ⟨(cellAllocG c2), (cellAllocG r0), (cellAllocG k1), (cellAllocG k2)⟩ (fun hHeld => ?_)
   clear hK K
   refine n2_ 56 ?_
   refine last_ (i := 21) (N := some 57) (bA_ 24 4194303) rfl rfl (by kernel_rfl) (by decide) (fun K hK => ?_)
   refine Kd.R_append_step k156 (w0 := w) (W := wr.drew) w.heap.size (by rfl) (.tmp 37) (.tmp 56) 119 156 (.agg #[(.int .i64 0), (.int .i64 0), (.int .i64 0), (.int .i64 0), (.int .i64 0)]) 40 rfl Tryz.underlying119 info156 rfl (by decide) (by omega) vl2 acc (⟨v, a, (⟨b, -1, x⟩ : S69)⟩ : S156) [.int .i64 v, .int .i64 a, .int .i64 b, .int .i64 (-1), .int .i64 x] (fun _ => True) (fun _ => False) rfl rfl (k156_mkM _ _ _ (⟨v, a, (⟨b, -1, x⟩ : S69)⟩ : S156)) (fun _ h => h.elim) (fun _ _ => trivial) HND.out.rl HND.out.bel HND.out.bel.size (by omega) ?_
   intro vk' w7 hR hB hG _
   obtain ⟨A9, c9, hv9⟩ := Kd.R_slice hR
   generalize (acc ++ [(⟨v, a, (⟨b, -1, x⟩ : S69)⟩ : S156)]).length = m9 at hv9
   subst hv9
   have HN7 := Lib.hid (N8.appL HND.out hG hR hB)
   have hm := N8.mid HND.out.rl hG HND.out.tb (by decide)
   have HR7 := Lib.hid (Kd.R_set (Kd.R_over (Kd.R_below HR.out (Below.refl _ _).drew) HND.out.rl (by decide) hG) hm (by decide) 2 (.slice A9 m9 c9))
   have hml := blk_lt hm
   have hmc := (blk_cell hm 2).trans rfl
   have hmf : ∀ j, w7.frozen? ⟨w.heap.size + 1 + 1, j, none⟩ = false := fun j => blk_frozen hm j
   clear hR hB hG
   refine hK.out _ _ ?_
   clear hK K
   refine n2_ 57 ?_
   refine p2_ 22 58 (bA_ 24 8388607) ?_
   refine last_ (i := 23) (N := none) (bA_ 24 16777215) rfl rfl (by kernel_rfl) (by decide) (fun K hK => ?_)
   refine skip_ (w1 := ?_) (by rfl) rfl ?_ ?_
   rotate_left
   ·go_simp
    rfl
   refine hK.out _ _ ?_
   clear hK K
   refine done_ (by kernel_rfl) ?_
   go_wp2_with fail
   go_roundw
   case measure => simp [intOf]; omega
   case rel => exact ⟨j + 1, _, by go_num, by omega, by rw [HACC.out]; exact HN7, HR7⟩
end Go.Proofs.YtfkejflmhidnaaaGreat.PAll
namespace Go.Proofs.YtfkejflmhidnaaaGreat.PAll
open RowKit YtfkejflmhidnaaaGreatW.PrintWords YtfkejflmhidnaaaGreatW.PrintLast YtfkejflmhidnaaaGreatW.PrintMore
open Hp hiding Good
def NewGPost (w : World) (n : Nat) (Sa : Value) (A : List S85) (r : Ending) (w' : World) : Prop := ∃ vk K, r = .returned (.tuple #[.agg #[.int .i64 n, Sa, vk], .bool true]) ∧ Kd.R (Kd.int .i64) 3 w' w.heap.size (fun _ => True) vk K ∧ K.length = A.length ∧ (∀ q : Nat, q < A.length → (rd K (q : Int) = 1 ↔ Counts A q)) ∧ Below w.heap.size w w'
structure N3 (w W : World) (g n : Nat) (Sa vk : Value) (K : List Int) : Prop where
 mb : W.heap[w.heap.size]? = some (.cells #[.int .i64 n, Sa] 24 (0, 0))
 zb : W.heap[w.heap.size + 1]? = some (.cells #[.int .i64 0, .slice none 0 0, .slice none 0 0] 77 (0, 0))
 gb : W.heap[g]? = some (.cells #[.int .i64 n, Sa, vk] 77 (0, 0))
 gt : w.heap.size + 1 < g
 bel : Below w.heap.size w W
 rk : Kd.R (Kd.int .i64) 3 W w.heap.size (fun _ => True) vk K
theorem N3.below {w W W' : World} {g n : Nat} {Sa vk : Value} {K : List Int} (h : N3 w W g n Sa vk K) (b : Below W.heap.size W W') : N3 w W' g n Sa vk K :=
 ⟨(b.block _ (blk_lt h.mb)).trans h.mb, (b.block _ (blk_lt h.zb)).trans h.zb, (b.block _ (blk_lt h.gb)).trans h.gb, h.gt, h.bel.trans (b.mono h.bel.size), Kd.R_below h.rk b⟩
theorem N3.mid {w W w2 : World} {g n : Nat} {Sa vk : Value} {K : List Int} (h : N3 w W g n Sa vk K) (hg : W.grownBy w2 vk.ownBlock) : w2.heap[g]? = some (.cells #[.int .i64 n, Sa, vk] 77 (0, 0)) := (hg.block g (blk_lt h.gb) (Kd.R_ne h.rk h.gb (by decide))).trans h.gb
theorem N3.app {w W w2 : World} {g n : Nat} {Sa vk vk' : Value} {K : List Int} {p : Int} (h : N3 w W g n Sa vk K) (hg : W.grownBy w2 vk.ownBlock) (hR : Kd.R (Kd.int .i64) 3 w2 w.heap.size (fun _ => True) vk' (K ++ [p])) (hB : Below w.heap.size w w2) : N3 w (w2.setCell ⟨g, 2, none⟩ vk') g n Sa vk' (K ++ [p]) := by
 have h1 := h.gt
 have hm := h.mid hg
 have e1 := (hg.block _ (blk_lt h.mb) (Kd.R_ne h.rk h.mb (by decide))).trans h.mb
 have e2 := (hg.block _ (blk_lt h.zb) (Kd.R_ne h.rk h.zb (by decide))).trans h.zb
 exact ⟨(Below.heap_setCell w2 ⟨g, 2, none⟩ _ _ (by simp; omega)).trans e1, (Below.heap_setCell w2 ⟨g, 2, none⟩ _ _ (by simp; omega)).trans e2, blk_put hm 2 vk' rfl, h.gt, hB.setCell (p := ⟨g, 2, none⟩) (by simp; omega) _, Kd.R_set hR hm (by decide) 2 _⟩
set_option maxRecDepth 100000 in
set_option maxHeartbeats 4000000 in
theorem new6_walk (w : World) (n : Nat) (A : List S85) (Aa : Option Addr) (ca : Nat) (hC : Kd.C k85 w Aa A.length A) (hca : A.length ≤ ca) (hok : MapOk n A) :
  Calls Tryz.prog 34 #[.agg #[.int .i64 n, .slice Aa A.length ca]] w fun r w' => NewGPost w n (.slice Aa A.length ca) A r w' := by
 have HCH : Hid (∀ W, Below w.heap.size w W → Calls Tryz.prog 74 #[.agg #[.int .i64 n, .slice Aa A.length ca]] W fun e w' => e = .returned (.int .i64 0) ∧ Below W.heap.size W w') := Lib.hid (fun W g => mcheck_walk W n A Aa ca (Kd.C_below hC g) hca hok)
 have HCT : Hid (∀ i : Nat, i < A.length → ∃ b : Bool, (b = true ↔ Counts A i) ∧ ∀ W, Below w.heap.size w W → Calls Tryz.prog 75 #[.agg #[.int .i64 n, .slice Aa A.length ca], .int .i64 i] W fun e w' => e = .returned (.bool b) ∧ Below W.heap.size W w') := Lib.hid (fun i hi => ⟨cntB A i, cntB_iff A i, fun W g => counts_walk W n A Aa ca (Kd.C_below hC g) hca hok.few i hi⟩)
 have hfew := hok.few
 obtain ⟨len, hlen⟩ : ∃ len, A.length = len := ⟨_, rfl⟩
 have HLEN := Lib.hid hlen
 rw [hlen] at HCH HCT hfew ⊢
 clear hC hok hca hlen
 have HG0 : Hid (Below w.heap.size w ((w.alloc (.cells #[.int .i64 n, .slice Aa len ca] 24)).alloc (.cells #[.int .i64 0, .slice none 0 0, .slice none 0 0] 77))) := Lib.hid (((Below.refl _ _).alloc (Nat.le_refl _) _).alloc (by simp) _)
 have HM0 : Hid (((w.alloc (.cells #[.int .i64 n, .slice Aa len ca] 24)).alloc (.cells #[.int .i64 0, .slice none 0 0, .slice none 0 0] 77)).heap[w.heap.size]? = some (.cells #[.int .i64 n, .slice Aa len ca] 24 (0, 0))) := Lib.hid (blk_alloc (blk_new w _) _)
 have HZ0 : Hid (((w.alloc (.cells #[.int .i64 n, .slice Aa len ca] 24)).alloc (.cells #[.int .i64 0, .slice none 0 0, .slice none 0 0] 77)).heap[w.heap.size + 1]? = some (.cells #[.int .i64 0, .slice none 0 0, .slice none 0 0] 77 (0, 0))) := Lib.hid (by have := blk_new (w.alloc (.cells #[.int .i64 n, .slice Aa len ca] 24)) (.cells #[.int .i64 0, .slice none 0 0, .slice none 0 0] 77); rw [World.size_alloc] at this; exact this)
 have HSZ : Hid (w.heap.size + 2 ≤ ((w.alloc (.cells #[.int .i64 n, .slice Aa len ca] 24)).alloc (.cells #[.int .i64 0, .slice none 0 0, .slice none 0 0] 77)).heap.size) := Lib.hid (by simp)
 have a0 := (blk_cell HM0.out 0).trans rfl
 have a1 := (blk_cell HM0.out 1).trans rfl
 have al := blk_lt HM0.out
 go_enter Tryz.func34, Tryz.ntmps34
 go_upto_region 1 with fail
 generalize (w.alloc (.cells #[.int .i64 n, .slice Aa len ca] 24)).alloc (.cells #[.int .i64 0, .slice none 0 0, .slice none 0 0] 77) = W1 at *
 go_upto_region 3 with (first | (go_at_call 74; refine (HCH.out W1 HG0.out).mono ?_; rintro e W2 ⟨rfl, g2⟩; have HG2 := Lib.hid g2; clear g2; clear a0 a1 al; have hm2 := (HG2.out.block _ (blk_lt HM0.out)).trans HM0.out; have a0 := (blk_cell hm2 0).trans rfl; have a1 := (blk_cell hm2 1).trans rfl; have al := blk_lt hm2; have HM2 := Lib.hid hm2; clear hm2))
 go_upto_region 4 with fail
 have HN : Hid (N3 w (W2.alloc (.cells #[.int .i64 n, .slice Aa len ca, .slice none 0 0] 77)) W2.heap.size n (.slice Aa len ca) (.slice none 0 0) []) := Lib.hid ⟨blk_alloc HM2.out _, blk_alloc ((HG2.out.block _ (blk_lt HZ0.out)).trans HZ0.out) _, blk_new W2 _, by have := HSZ.out; have := HG2.out.size; omega, (HG0.out.trans (HG2.out.mono HG0.out.size)).alloc (Nat.le_trans HG0.out.size HG2.out.size) _, Kd.R_nil _ _ _ _ _⟩
 clear a0 a1 al HM2 HM0 HZ0 HG0 HG2 HSZ
 generalize W2.alloc (.cells #[.int .i64 n, .slice Aa len ca, .slice none 0 0] 77) = W3 at *
 generalize W2.heap.size = gg at *
 go_wp2_with fail
 go_loopw [5] (fun v5 wr => ∃ (i : Nat) (vk : Value) (K : List Int), v5 = .int .i64 i ∧ i ≤ len ∧ Hid (N3 w wr gg n (.slice Aa len ca) vk K) ∧ Hid (K.length = i ∧ ∀ q : Nat, q < i → (rd K (q : Int) = 1 ↔ Counts A q))) (fun v5 _ => len - (intOf v5).toNat)
 case atStart => exact ⟨0, _, [], rfl, by omega, HN, Lib.hid ⟨rfl, fun q hq => by omega⟩⟩
 case round =>
  obtain ⟨i, vk, K, rfl, hi, HNr, HK⟩ := hrel
  clear HN
  have a0 : wr.cell? ⟨w.heap.size, 0, none⟩ = some (.int .i64 n) := (blk_cell HNr.out.mb 0).trans rfl
  have a1 : wr.cell? ⟨w.heap.size, 1, none⟩ = some (.slice Aa len ca) := (blk_cell HNr.out.mb 1).trans rfl
  have al := blk_lt HNr.out.mb
  by_cases hlt : i < len
  ·have hi0 : (0 : Int) ≤ (i : Int) := Int.natCast_nonneg _
   have hi1 : (i : Int) < (len : Int) := by omega
   obtain ⟨b, hb, hcall⟩ := HCT.out i hlt
   have HCB := Lib.hid hcall
   have hnew : ∀ x : Int, (x = 1 ↔ Counts A i) → (K ++ [x]).length = i + 1 ∧ ∀ q : Nat, q < i + 1 → (rd (K ++ [x]) (q : Int) = 1 ↔ Counts A q) := fun x hx => by
    obtain ⟨h1, h2⟩ := HK.out
    refine ⟨by rw [List.length_append, h1]; rfl, fun q hqi => ?_⟩
    rcases Nat.lt_or_ge q i with h3 | h3
    ·rw [← h2 q h3]
     simp [rd, List.getD, List.getElem?_append_left (show q < K.length by omega)]
    ·obtain rfl : q = i := by omega
     rw [← hx]
     have : (K ++ [x])[q]? = some x := by rw [List.getElem?_append_right (by omega), h1]; simp
     simp [rd, List.getD, this]
   have HNW : Hid ((K ++ [if b = true then 1 else 0]).length = i + 1 ∧ ∀ q : Nat, q < i + 1 → (rd (K ++ [if b = true then 1 else 0]) (q : Int) = 1 ↔ Counts A q)) := Lib.hid (hnew _ (by rw [← hb]; cases b <;> simp))
   have hKl : K.length ≤ 40 := by have := HK.out.1; omega
   clear hb hcall hnew
   cases b with
   | true =>
    go_upto_region 10 with (first | (go_at_call 75; refine (HCB.out wr HNr.out.bel).mono ?_; rintro e W4 ⟨rfl, g4⟩; have HN4 := Lib.hid (HNr.out.below g4); clear g4))
    clear a0 a1 al
    have b0 : W4.cell? ⟨gg, 2, none⟩ = some vk := (blk_cell HN4.out.gb 2).trans rfl
    have bl := blk_lt HN4.out.gb
    go_wp2_with (at_builtin; refine Kd.R_append (Kd.int .i64) (w0 := w) w.heap.size rfl (.tmp 24) (.tmp 26) 28 3 (.int .i64 0) 8 rfl Tryz.underlying28 info3 rfl (by decide) (by omega) _ K 1 [.int .i64 1] (fun _ => True) (fun _ => False) rfl rfl rfl (fun _ h => h.elim) (fun _ _ => trivial) HN4.out.rk HN4.out.bel HN4.out.bel.size (by omega) ?_; intro vk' w7 hR hB hg _; obtain ⟨A9, c9, hv9⟩ := Kd.R_slice hR; generalize (K ++ [1]).length = m9 at hv9; subst hv9; have HN5 := Lib.hid (N3.app HN4.out hg hR hB); have hm := N3.mid HN4.out hg; clear b0 bl; have d0 := (blk_cell hm 2).trans rfl; have dl := blk_lt hm; have df : ∀ j, w7.frozen? ⟨gg, j, none⟩ = false := fun j => blk_frozen hm j; clear hR hB hg hm)
    go_roundw
    case measure => simp [intOf]; omega
    case rel => exact ⟨i + 1, _, K ++ [1], by go_num, by omega, HN5, HNW⟩
   | false =>
    go_upto_region 10 with (first | (go_at_call 75; refine (HCB.out wr HNr.out.bel).mono ?_; rintro e W4 ⟨rfl, g4⟩; have HN4 := Lib.hid (HNr.out.below g4); clear g4))
    clear a0 a1 al
    have b0 : W4.cell? ⟨gg, 2, none⟩ = some vk := (blk_cell HN4.out.gb 2).trans rfl
    have bl := blk_lt HN4.out.gb
    go_wp2_with (at_builtin; refine Kd.R_append (Kd.int .i64) (w0 := w) w.heap.size rfl (.tmp 24) (.tmp 26) 28 3 (.int .i64 0) 8 rfl Tryz.underlying28 info3 rfl (by decide) (by omega) _ K 0 [.int .i64 0] (fun _ => True) (fun _ => False) rfl rfl rfl (fun _ h => h.elim) (fun _ _ => trivial) HN4.out.rk HN4.out.bel HN4.out.bel.size (by omega) ?_; intro vk' w7 hR hB hg _; obtain ⟨A9, c9, hv9⟩ := Kd.R_slice hR; generalize (K ++ [0]).length = m9 at hv9; subst hv9; have HN5 := Lib.hid (N3.app HN4.out hg hR hB); have hm := N3.mid HN4.out hg; clear b0 bl; have d0 := (blk_cell hm 2).trans rfl; have dl := blk_lt hm; have df : ∀ j, w7.frozen? ⟨gg, j, none⟩ = false := fun j => blk_frozen hm j; clear hR hB hg hm)
    go_roundw
    case measure => simp [intOf]; omega
    case rel => exact ⟨i + 1, _, K ++ [0], by go_num, by omega, HN5, HNW⟩
  ·have hil : len ≤ i := by omega
   have HKE : Hid (K.length = A.length ∧ ∀ q : Nat, q < A.length → (rd K (q : Int) = 1 ↔ Counts A q)) := Lib.hid (by
    obtain ⟨h1, h2⟩ := HK.out
    have hl := HLEN.out
    exact ⟨by omega, fun q hq => h2 q (by omega)⟩)
   obtain ⟨Y, z, hvk⟩ := Kd.R_slice HNr.out.rk
   generalize hy : K.length = y at hvk
   subst hvk
   have b0 : wr.cell? ⟨gg, 0, none⟩ = some (.int .i64 n) := (blk_cell HNr.out.gb 0).trans rfl
   have b1 : wr.cell? ⟨gg, 1, none⟩ = some (.slice Aa len ca) := (blk_cell HNr.out.gb 1).trans rfl
   have b2 : wr.cell? ⟨gg, 2, none⟩ = some (.slice Y y z) := (blk_cell HNr.out.gb 2).trans rfl
   have bl := blk_lt HNr.out.gb
   have z0 : wr.cell? ⟨w.heap.size + 1, 0, none⟩ = some (.int .i64 0) := (blk_cell HNr.out.zb 0).trans rfl
   have z1 : wr.cell? ⟨w.heap.size + 1, 1, none⟩ = some (.slice none 0 0) := (blk_cell HNr.out.zb 1).trans rfl
   have z2 : wr.cell? ⟨w.heap.size + 1, 2, none⟩ = some (.slice none 0 0) := (blk_cell HNr.out.zb 2).trans rfl
   have zl := blk_lt HNr.out.zb
   have zf : ∀ j, wr.frozen? ⟨w.heap.size + 1, j, none⟩ = false := fun j => blk_frozen HNr.out.zb j
   have p0 := blk_put HNr.out.zb 0 (.int .i64 n) (cs' := #[.int .i64 n, .slice none 0 0, .slice none 0 0]) rfl
   have p1 := blk_put p0 1 (.slice Aa len ca) (cs' := #[.int .i64 n, .slice Aa len ca, .slice none 0 0]) rfl
   have p2 := blk_put p1 2 (.slice Y y z) (cs' := #[.int .i64 n, .slice Aa len ca, .slice Y y z]) rfl
   have HP2 := Lib.hid p2
   have HRK := Lib.hid (Kd.R_set (Kd.R_set (Kd.R_set HNr.out.rk HNr.out.zb (by decide) 0 (.int .i64 n)) p0 (by decide) 1 (.slice Aa len ca)) p1 (by decide) 2 (.slice Y y z))
   have HBE := Lib.hid (((HNr.out.bel.setCell (p := ⟨w.heap.size + 1, 0, none⟩) (by simp) (.int .i64 n)).setCell (p := ⟨w.heap.size + 1, 1, none⟩) (by simp) (.slice Aa len ca)).setCell (p := ⟨w.heap.size + 1, 2, none⟩) (by simp) (.slice Y y z))
   clear p0 p1 p2
   go_wp2_with fail
   all_goals (try rw [Exit.noGoto_ret])
   all_goals (refine bodyPost_ret (results_ct rfl _ _ (w.heap.size + 1) 77 #[.int .i64 n, .slice Aa len ca, .slice Y y z] (0, 0) _ rfl HP2.out Tryz.underlying77 rfl (by kernel_rfl)) rfl ?_)
   all_goals exact ⟨_, K, rfl, HRK.out, HKE.out.1, HKE.out.2, HBE.out⟩
def OfPost (w : World) (n : Nat) (A : List S85) (r : Ending) (w' : World) : Prop := ∃ vr vw t rk H, r = .returned (.agg #[vr, vw]) ∧ BI n (EA A) n t rk H ∧ Kd.R (Kd.int .i64) 3 w' w.heap.size (fun _ => True) vr rk ∧ Kd.R k71 71 w' w.heap.size (fun _ => True) vw H ∧ Below w.heap.size w w'
theorem BI.good {n r : Nat} {E0 : Int → Int → Int → Prop} {t : TP} {rk : List Int} {H : List S71} (h : BI n E0 r t rk H) (hn : n ≤ 12) (hr : r < n) : GoodB n t rk H := by
 have h1 := wmR_top (show r ≤ 12 by omega)
 have h2 := wmR_pos r
 have h3 := h.llen
 have h4 := h.hlen
 have h5 : n * n * r ≤ 12 * 12 * 12 := Nat.mul_le_mul (Nat.mul_le_mul hn hn) (by omega)
 have h6 : 2 * n * r ≤ 2 * 12 * 12 := Nat.mul_le_mul (Nat.mul_le_mul (Nat.le_refl 2) hn) (by omega)
 exact ⟨fun e => by have := h.cnt; rw [e] at this; simp at this; omega, h.ok.nn, h.rl, ⟨wmR r, by omega, by omega, h.ok⟩, by omega, by omega, by omega⟩
set_option maxRecDepth 100000 in
set_option maxHeartbeats 4000000 in
theorem of9_walk (w : World) (n : Nat) (A : List S85) (Aa : Option Addr) (ca : Nat) (hC : Kd.C k85 w Aa A.length A) (hca : A.length ≤ ca) (hok : MapOk n A) :
  Calls Tryz.prog 13 #[.agg #[.int .i64 n, .slice Aa A.length ca]] w fun r w' => OfPost w n A r w' := by
 have HNG : Hid (∀ W, Below w.heap.size w W → Calls Tryz.prog 34 #[.agg #[.int .i64 n, .slice Aa A.length ca]] W fun r w' => NewGPost W n (.slice Aa A.length ca) A r w') := Lib.hid (fun W g => new6_walk W n A Aa ca (Kd.C_below hC g) hca hok)
 have HBL : Hid (∀ W, Below w.heap.size w W → ∀ (Ak : Option Addr) (ck : Nat) (K : List Int), Kd.C (Kd.int .i64) W Ak K.length K → K.length ≤ ck → K.length = A.length → (∀ q : Nat, q < A.length → (rd K (q : Int) = 1 ↔ Counts A q)) →
   Calls Tryz.prog 35 #[.agg #[.int .i64 n, .slice Aa A.length ca, .slice Ak K.length ck]] W fun r w' => BuildPost W n (BI n (EA A)) r w') := Lib.hid (fun W g Ak ck K hK hck hkl hkc => by
  obtain ⟨hl, hm⟩ := newG_ok hok hkl
  have hn := hok.n1
  refine build_walk W n _ _ ⟨n, List.replicate n 1, newG A K n, List.replicate n 0⟩ (fun W' g' => ?_) rfl (by omega) ⟨_, _, _, rfl⟩ ⟨_, _, _, rfl⟩ (BI n (EA A)) (BI.start hok hkc hl hm) (fun r t rk H h hr => h.good hok.n1 hr) (fun r t rk H v L t' h _ hv hN hT => h.step hv hN hT)
  refine (new8_walk W' n A K Aa Ak ca ck (Kd.C_below hC (g.trans (g'.mono g.size))) hca (Kd.C_below hK g') hck hkl hok).mono ?_
  rintro e w' ⟨v1, v2, v3, rfl, h1, h2, h3, h4⟩
  exact ⟨v1, v2, v3, rfl, ⟨Kd.R_mono h1 (fun _ _ => trivial), h2, Kd.R_mono h3 (fun _ _ => trivial), by simp, by simp, by simp only; omega, by simp only; omega⟩, h4⟩)
 obtain ⟨len, hlen⟩ : ∃ len, A.length = len := ⟨_, rfl⟩
 have HLEN := Lib.hid hlen
 have HBP : Hid (∀ (r : Ending) (w' : World), (∃ vr vw t rk H, r = .returned (.agg #[vr, vw]) ∧ BI n (EA A) n t rk H ∧ Kd.R (Kd.int .i64) 3 w' w.heap.size (fun _ => True) vr rk ∧ Kd.R k71 71 w' w.heap.size (fun _ => True) vw H ∧ Below w.heap.size w w') → OfPost w n A r w') := Lib.hid (fun r w' h => h)
 rw [hlen] at HNG HBL ⊢
 clear hC hca hok hlen
 have HG0 : Hid (Below w.heap.size w ((w.alloc (.cells #[.int .i64 n, .slice Aa len ca] 24)).alloc (.cells #[.slice none 0 0, .slice none 0 0] 31))) := Lib.hid (((Below.refl _ _).alloc (Nat.le_refl _) _).alloc (by simp) _)
 have HM0 : Hid (((w.alloc (.cells #[.int .i64 n, .slice Aa len ca] 24)).alloc (.cells #[.slice none 0 0, .slice none 0 0] 31)).heap[w.heap.size]? = some (.cells #[.int .i64 n, .slice Aa len ca] 24 (0, 0))) := Lib.hid (blk_alloc (blk_new w _) _)
 have HZ0 : Hid (((w.alloc (.cells #[.int .i64 n, .slice Aa len ca] 24)).alloc (.cells #[.slice none 0 0, .slice none 0 0] 31)).heap[w.heap.size + 1]? = some (.cells #[.slice none 0 0, .slice none 0 0] 31 (0, 0))) := Lib.hid (by have := blk_new (w.alloc (.cells #[.int .i64 n, .slice Aa len ca] 24)) (.cells #[.slice none 0 0, .slice none 0 0] 31); rw [World.size_alloc] at this; exact this)
 have a0 := (blk_cell HM0.out 0).trans rfl
 have a1 := (blk_cell HM0.out 1).trans rfl
 have al := blk_lt HM0.out
 go_enter Tryz.func13, Tryz.ntmps13
 go_upto_region 1 with fail
 generalize (w.alloc (.cells #[.int .i64 n, .slice Aa len ca] 24)).alloc (.cells #[.slice none 0 0, .slice none 0 0] 31) = W1 at *
 go_upto_region 2 with (first | (go_at_call 34; refine (HNG.out W1 HG0.out).mono ?_; rintro e W2 ⟨vk, K, rfl, hR, hKl, hKc, g2⟩; obtain ⟨Ak, ck, hvk, hck, hCk⟩ := Kd.R_reads hR; subst hvk; have HCK := Lib.hid hCk; have HKC := Lib.hid (And.intro hKl hKc); have HCL := Lib.hid hck; have HG2 := Lib.hid g2; clear hR hCk hKl hKc hck g2))
 have HW3 : Hid (Below W2.heap.size W2 (W2.alloc (.cells #[.int .i64 n, .slice Aa len ca, .slice Ak K.length ck] 77))) := Lib.hid ((Below.refl _ _).alloc (Nat.le_refl _) _)
 have HX3 := Lib.hid (blk_new W2 (.cells #[.int .i64 n, .slice Aa len ca, .slice Ak K.length ck] 77))
 have HG3 := Lib.hid ((HG0.out.trans (HG2.out.mono HG0.out.size)).trans (HW3.out.mono (Nat.le_trans HG0.out.size HG2.out.size)))
 have HZ3 : Hid ((W2.alloc (.cells #[.int .i64 n, .slice Aa len ca, .slice Ak K.length ck] 77)).heap[w.heap.size + 1]? = some (.cells #[.slice none 0 0, .slice none 0 0] 31 (0, 0))) := Lib.hid (blk_alloc ((HG2.out.block _ (blk_lt HZ0.out)).trans HZ0.out) _)
 have HCK3 := Lib.hid (Kd.C_below HCK.out HW3.out)
 clear a0 a1 al HM0 HZ0 HG0 HG2 HW3 HCK
 generalize W2.alloc (.cells #[.int .i64 n, .slice Aa len ca, .slice Ak K.length ck] 77) = W3 at *
 generalize W2.heap.size = gx at *
 have x0 := (blk_cell HX3.out 0).trans rfl
 have x1 := (blk_cell HX3.out 1).trans rfl
 have x2 := (blk_cell HX3.out 2).trans rfl
 have xl := blk_lt HX3.out
 have HCALL := Lib.hid (HBL.out W3 HG3.out Ak ck K HCK3.out HCL.out (by rw [HKC.out.1, HLEN.out]) (by rw [← HLEN.out] ; first | exact HKC.out.2 | (rw [HLEN.out]; exact HKC.out.2)))
 generalize K.length = kl at *
 go_wp2_with (first | (go_at_call 35; refine HCALL.out.mono ?_; rintro e W4 ⟨vr, vw, t, rk, H, rfl, hI, hRr, hRw, g4⟩; obtain ⟨Y1, z1, hvr⟩ := Kd.R_slice hRr; obtain ⟨Y2, z2, hvw⟩ := Kd.R_slice hRw; generalize hy1 : rk.length = y1 at hvr; generalize hy2 : H.length = y2 at hvw; subst hvr hvw; have HI := Lib.hid hI; have HRr := Lib.hid (Kd.R_lower hRr HG3.out.size); have HRw := Lib.hid (Kd.R_lower hRw HG3.out.size); have HG4 := Lib.hid (HG3.out.trans (g4.mono HG3.out.size)); have hz4 := (g4.block _ (blk_lt HZ3.out)).trans HZ3.out; have HZ4 := Lib.hid hz4; have z0' := (blk_cell hz4 0).trans rfl; have z1' := (blk_cell hz4 1).trans rfl; have zl := blk_lt hz4; have zf : ∀ j, W4.frozen? ⟨w.heap.size + 1, j, none⟩ = false := fun j => blk_frozen hz4 j; clear hI hRr hRw g4 hz4 hy1 hy2))
 have p0 := blk_put HZ4.out 0 (.slice Y1 y1 z1) (cs' := #[.slice Y1 y1 z1, .slice none 0 0]) rfl
 have p1 := blk_put p0 1 (.slice Y2 y2 z2) (cs' := #[.slice Y1 y1 z1, .slice Y2 y2 z2]) rfl
 all_goals (try rw [Exit.noGoto_ret])
 all_goals (refine bodyPost_ret (results_cell_row rfl _ _ (w.heap.size + 1) 31 #[.slice Y1 y1 z1, .slice Y2 y2 z2] (0, 0) _ rfl p1 Tryz.underlying31 rfl (by kernel_rfl)) rfl ?_)
 all_goals exact HBP.out _ _ ⟨_, _, t, rk, H, rfl, HI.out, Kd.R_set (Kd.R_set HRr.out HZ4.out (by decide) 0 _) p0 (by decide) 1 _, Kd.R_set (Kd.R_set HRw.out HZ4.out (by decide) 0 _) p0 (by decide) 1 _, (HG4.out.setCell (p := ⟨w.heap.size + 1, 0, none⟩) (by simp) _).setCell (p := ⟨w.heap.size + 1, 1, none⟩) (by simp) _⟩
end Go.Proofs.YtfkejflmhidnaaaGreat.PAll
