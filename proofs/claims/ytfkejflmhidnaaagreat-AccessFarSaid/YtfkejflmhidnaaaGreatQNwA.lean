import Derived.Test.YtfkejflmhidnaaaGreatQGgP
import Derived.Test.YtfkejflmhidnaaaGreatQBlB
set_option linter.all false
namespace Go.Proofs.YtfkejflmhidnaaaGreat.PAll
open RowKit YtfkejflmhidnaaaGreatW.PrintWords YtfkejflmhidnaaaGreatW.PrintLast YtfkejflmhidnaaaGreatW.PrintMore
open Hp hiding Good
def NewGPost (w : World) (n : Nat) (Sa : Value) (A : List S85) (r : Ending) (w' : World) : Prop := ∃ vk K, r = .returned (.tuple #[.agg #[.int .i64 n, Sa, vk], .bool true]) ∧ Kd.R (Kd.int .i64) 3 w' w.heap.size (fun _ => True) vk K ∧ K.length = A.length ∧ (∀ q : Nat, q < A.length → (rd K (q : Int) = 1 ↔ Counts A q)) ∧ Below w.heap.size w w'
structure N3 (w W : World) (g n : Nat) (Sa vk : Value) (K : List Int) : Prop where
  mb : W.heap[w.heap.size]? = some (.cells #[.int .i64 n, Sa] 24 (0, 0))
  zb : W.heap[w.heap.size + 1]? = some (.cells #[.int .i64 0, .slice none 0 0, .slice none 0 0] 77 (0, 0))
  gb : W.heap[g]? = some (.cells #[.int .i64 n, Sa, vk] 77 (0, 0))
  gt : w.heap.size + 1 < g
  bel : Below w.heap.size w W
  rk : Kd.R (Kd.int .i64) 3 W w.heap.size (fun _ => True) vk K
theorem N3.below {w W W' : World} {g n : Nat} {Sa vk : Value} {K : List Int} (h : N3 w W g n Sa vk K) (b : Below W.heap.size W W') : N3 w W' g n Sa vk K :=
  ⟨(b.block _ (blk_lt h.mb)).trans h.mb, (b.block _ (blk_lt h.zb)).trans h.zb, (b.block _ (blk_lt h.gb)).trans h.gb, h.gt, h.bel.trans (b.mono h.bel.size), Kd.R_below h.rk b⟩
theorem N3.mid {w W w2 : World} {g n : Nat} {Sa vk : Value} {K : List Int} (h : N3 w W g n Sa vk K) (hg : W.grownBy w2 vk.ownBlock) : w2.heap[g]? = some (.cells #[.int .i64 n, Sa, vk] 77 (0, 0)) := (hg.block g (blk_lt h.gb) (Kd.R_ne h.rk h.gb (by decide))).trans h.gb
theorem N3.app {w W w2 : World} {g n : Nat} {Sa vk vk' : Value} {K : List Int} {p : Int} (h : N3 w W g n Sa vk K) (hg : W.grownBy w2 vk.ownBlock) (hR : Kd.R (Kd.int .i64) 3 w2 w.heap.size (fun _ => True) vk' (K ++ [p])) (hB : Below w.heap.size w w2) : N3 w (w2.setCell ⟨g, 2, none⟩ vk') g n Sa vk' (K ++ [p]) := by
  have h1 := h.gt
  have hm := h.mid hg
  have e1 := (hg.block _ (blk_lt h.mb) (Kd.R_ne h.rk h.mb (by decide))).trans h.mb
  have e2 := (hg.block _ (blk_lt h.zb) (Kd.R_ne h.rk h.zb (by decide))).trans h.zb
  exact ⟨(Below.heap_setCell w2 ⟨g, 2, none⟩ _ _ (by simp; omega)).trans e1, (Below.heap_setCell w2 ⟨g, 2, none⟩ _ _ (by simp; omega)).trans e2, blk_put hm 2 vk' rfl, h.gt, hB.setCell (p := ⟨g, 2, none⟩) (by simp; omega) _, Kd.R_set hR hm (by decide) 2 _⟩
set_option maxRecDepth 100000 in
set_option maxHeartbeats 4000000 in
theorem new6_walk (w : World) (n : Nat) (A : List S85) (Aa : Option Addr) (ca : Nat) (hC : Kd.C k85 w Aa A.length A) (hca : A.length ≤ ca) (hok : MapOk n A) :
    Calls Tryz.prog 34 #[.agg #[.int .i64 n, .slice Aa A.length ca]] w fun r w' => NewGPost w n (.slice Aa A.length ca) A r w' := by
  have HCH : Hid (∀ W, Below w.heap.size w W → Calls Tryz.prog 74 #[.agg #[.int .i64 n, .slice Aa A.length ca]] W fun e w' => e = .returned (.int .i64 0) ∧ Below W.heap.size W w') := Lib.hid (fun W g => by
    obtain ⟨k, hk⟩ := (check_ok hok).at
    exact postroadref05_Check.calls k n Aa ca A 0 W (Kd.C_below hC g) hca hk)
  have HCT : Hid (∀ i : Nat, i < A.length → ∃ b : Bool, (b = true ↔ Counts A i) ∧ ∀ W, Below w.heap.size w W → Calls Tryz.prog 75 #[.agg #[.int .i64 n, .slice Aa A.length ca], .int .i64 i] W fun e w' => e = .returned (.bool b) ∧ Below W.heap.size W w') := Lib.hid (fun i hi => by
    obtain ⟨b, hb, hq⟩ := counts_ok n A hok.few i hi
    obtain ⟨k, hk⟩ := hb.at
    exact ⟨b, hq, fun W g => postroadref06_counts.calls k n Aa ca A i b W (Kd.C_below hC g) hca hk⟩)
  have hfew := hok.few
  obtain ⟨len, hlen⟩ : ∃ len, A.length = len := ⟨_, rfl⟩
  have HLEN := Lib.hid hlen
  rw [hlen] at HCH HCT hfew ⊢
  clear hC hok hca hlen
  have HG0 : Hid (Below w.heap.size w ((w.alloc (.cells #[.int .i64 n, .slice Aa len ca] 24)).alloc (.cells #[.int .i64 0, .slice none 0 0, .slice none 0 0] 77))) := Lib.hid (((Below.refl _ _).alloc (Nat.le_refl _) _).alloc (by simp) _)
  have HM0 : Hid (((w.alloc (.cells #[.int .i64 n, .slice Aa len ca] 24)).alloc (.cells #[.int .i64 0, .slice none 0 0, .slice none 0 0] 77)).heap[w.heap.size]? = some (.cells #[.int .i64 n, .slice Aa len ca] 24 (0, 0))) := Lib.hid (blk_alloc (blk_new w _) _)
  have HZ0 : Hid (((w.alloc (.cells #[.int .i64 n, .slice Aa len ca] 24)).alloc (.cells #[.int .i64 0, .slice none 0 0, .slice none 0 0] 77)).heap[w.heap.size + 1]? = some (.cells #[.int .i64 0, .slice none 0 0, .slice none 0 0] 77 (0, 0))) := Lib.hid (by have := blk_new (w.alloc (.cells #[.int .i64 n, .slice Aa len ca] 24)) (.cells #[.int .i64 0, .slice none 0 0, .slice none 0 0] 77); rw [World.size_alloc] at this; exact this)
  have HSZ : Hid (w.heap.size + 2 ≤ ((w.alloc (.cells #[.int .i64 n, .slice Aa len ca] 24)).alloc (.cells #[.int .i64 0, .slice none 0 0, .slice none 0 0] 77)).heap.size) := Lib.hid (by simp)
  have a0 := (blk_cell HM0.out 0).trans rfl
  have a1 := (blk_cell HM0.out 1).trans rfl
  have al := blk_lt HM0.out
  go_enter Tryz.func34, Tryz.ntmps34
  go_upto_region 1 with fail
  generalize (w.alloc (.cells #[.int .i64 n, .slice Aa len ca] 24)).alloc (.cells #[.int .i64 0, .slice none 0 0, .slice none 0 0] 77) = W1 at *
  go_upto_region 3 with (first | (go_at_call 74; refine (HCH.out W1 HG0.out).mono ?_; rintro e W2 ⟨rfl, g2⟩; have HG2 := Lib.hid g2; clear g2; clear a0 a1 al; have hm2 := (HG2.out.block _ (blk_lt HM0.out)).trans HM0.out; have a0 := (blk_cell hm2 0).trans rfl; have a1 := (blk_cell hm2 1).trans rfl; have al := blk_lt hm2; have HM2 := Lib.hid hm2; clear hm2))
  go_upto_region 4 with fail
  have HN : Hid (N3 w (W2.alloc (.cells #[.int .i64 n, .slice Aa len ca, .slice none 0 0] 77)) W2.heap.size n (.slice Aa len ca) (.slice none 0 0) []) := Lib.hid ⟨blk_alloc HM2.out _, blk_alloc ((HG2.out.block _ (blk_lt HZ0.out)).trans HZ0.out) _, blk_new W2 _, by have := HSZ.out; have := HG2.out.size; omega, (HG0.out.trans (HG2.out.mono HG0.out.size)).alloc (Nat.le_trans HG0.out.size HG2.out.size) _, Kd.R_nil _ _ _ _ _⟩
  clear a0 a1 al HM2 HM0 HZ0 HG0 HG2 HSZ
  generalize W2.alloc (.cells #[.int .i64 n, .slice Aa len ca, .slice none 0 0] 77) = W3 at *
  generalize W2.heap.size = gg at *
  go_wp2_with fail
  go_loopw [5] (fun v5 wr => ∃ (i : Nat) (vk : Value) (K : List Int), v5 = .int .i64 i ∧ i ≤ len ∧ Hid (N3 w wr gg n (.slice Aa len ca) vk K) ∧ Hid (K.length = i ∧ ∀ q : Nat, q < i → (rd K (q : Int) = 1 ↔ Counts A q))) (fun v5 _ => len - (intOf v5).toNat)
  case atStart => exact ⟨0, _, [], rfl, by omega, HN, Lib.hid ⟨rfl, fun q hq => by omega⟩⟩
  case round =>
    obtain ⟨i, vk, K, rfl, hi, HNr, HK⟩ := hrel
    clear HN
    have a0 : wr.cell? ⟨w.heap.size, 0, none⟩ = some (.int .i64 n) := (blk_cell HNr.out.mb 0).trans rfl
    have a1 : wr.cell? ⟨w.heap.size, 1, none⟩ = some (.slice Aa len ca) := (blk_cell HNr.out.mb 1).trans rfl
    have al := blk_lt HNr.out.mb
    by_cases hlt : i < len
    · have hi0 : (0 : Int) ≤ (i : Int) := Int.natCast_nonneg _
      have hi1 : (i : Int) < (len : Int) := by omega
      obtain ⟨b, hb, hcall⟩ := HCT.out i hlt
      have HCB := Lib.hid hcall
      have hnew : ∀ x : Int, (x = 1 ↔ Counts A i) → (K ++ [x]).length = i + 1 ∧ ∀ q : Nat, q < i + 1 → (rd (K ++ [x]) (q : Int) = 1 ↔ Counts A q) := fun x hx => by
        obtain ⟨h1, h2⟩ := HK.out
        refine ⟨by rw [List.length_append, h1]; rfl, fun q hqi => ?_⟩
        rcases Nat.lt_or_ge q i with h3 | h3
        · rw [← h2 q h3]
          simp [rd, List.getD, List.getElem?_append_left (show q < K.length by omega)]
        · obtain rfl : q = i := by omega
          rw [← hx]
          have : (K ++ [x])[q]? = some x := by rw [List.getElem?_append_right (by omega), h1]; simp
          simp [rd, List.getD, this]
      have HNW : Hid ((K ++ [if b = true then 1 else 0]).length = i + 1 ∧ ∀ q : Nat, q < i + 1 → (rd (K ++ [if b = true then 1 else 0]) (q : Int) = 1 ↔ Counts A q)) := Lib.hid (hnew _ (by rw [← hb]; cases b <;> simp))
      have hKl : K.length ≤ 40 := by have := HK.out.1; omega
      clear hb hcall hnew
      cases b with
      | true =>
        go_upto_region 10 with (first | (go_at_call 75; refine (HCB.out wr HNr.out.bel).mono ?_; rintro e W4 ⟨rfl, g4⟩; have HN4 := Lib.hid (HNr.out.below g4); clear g4))
        clear a0 a1 al
        have b0 : W4.cell? ⟨gg, 2, none⟩ = some vk := (blk_cell HN4.out.gb 2).trans rfl
        have bl := blk_lt HN4.out.gb
        go_wp2_with (at_builtin; refine Kd.R_append (Kd.int .i64) (w0 := w) w.heap.size rfl (.tmp 24) (.tmp 26) 28 3 (.int .i64 0) 8 rfl Tryz.underlying28 info3 rfl (by decide) (by omega) _ K 1 [.int .i64 1] (fun _ => True) (fun _ => False) rfl rfl rfl (fun _ h => h.elim) (fun _ _ => trivial) HN4.out.rk HN4.out.bel HN4.out.bel.size (by omega) ?_; intro vk' w7 hR hB hg _; obtain ⟨A9, c9, hv9⟩ := Kd.R_slice hR; generalize (K ++ [1]).length = m9 at hv9; subst hv9; have HN5 := Lib.hid (N3.app HN4.out hg hR hB); have hm := N3.mid HN4.out hg; clear b0 bl; have d0 := (blk_cell hm 2).trans rfl; have dl := blk_lt hm; have df : ∀ j, w7.frozen? ⟨gg, j, none⟩ = false := fun j => blk_frozen hm j; clear hR hB hg hm)
        go_roundw
        case measure => simp [intOf]; omega
        case rel => exact ⟨i + 1, _, K ++ [1], by go_num, by omega, HN5, HNW⟩
      | false =>
        go_upto_region 10 with (first | (go_at_call 75; refine (HCB.out wr HNr.out.bel).mono ?_; rintro e W4 ⟨rfl, g4⟩; have HN4 := Lib.hid (HNr.out.below g4); clear g4))
        clear a0 a1 al
        have b0 : W4.cell? ⟨gg, 2, none⟩ = some vk := (blk_cell HN4.out.gb 2).trans rfl
        have bl := blk_lt HN4.out.gb
        go_wp2_with (at_builtin; refine Kd.R_append (Kd.int .i64) (w0 := w) w.heap.size rfl (.tmp 24) (.tmp 26) 28 3 (.int .i64 0) 8 rfl Tryz.underlying28 info3 rfl (by decide) (by omega) _ K 0 [.int .i64 0] (fun _ => True) (fun _ => False) rfl rfl rfl (fun _ h => h.elim) (fun _ _ => trivial) HN4.out.rk HN4.out.bel HN4.out.bel.size (by omega) ?_; intro vk' w7 hR hB hg _; obtain ⟨A9, c9, hv9⟩ := Kd.R_slice hR; generalize (K ++ [0]).length = m9 at hv9; subst hv9; have HN5 := Lib.hid (N3.app HN4.out hg hR hB); have hm := N3.mid HN4.out hg; clear b0 bl; have d0 := (blk_cell hm 2).trans rfl; have dl := blk_lt hm; have df : ∀ j, w7.frozen? ⟨gg, j, none⟩ = false := fun j => blk_frozen hm j; clear hR hB hg hm)
        go_roundw
        case measure => simp [intOf]; omega
        case rel => exact ⟨i + 1, _, K ++ [0], by go_num, by omega, HN5, HNW⟩
    · have hil : len ≤ i := by omega
      have HKE : Hid (K.length = A.length ∧ ∀ q : Nat, q < A.length → (rd K (q : Int) = 1 ↔ Counts A q)) := Lib.hid (by
        obtain ⟨h1, h2⟩ := HK.out
        have hl := HLEN.out
        exact ⟨by omega, fun q hq => h2 q (by omega)⟩)
      obtain ⟨Y, z, hvk⟩ := Kd.R_slice HNr.out.rk
      generalize hy : K.length = y at hvk
      subst hvk
      have b0 : wr.cell? ⟨gg, 0, none⟩ = some (.int .i64 n) := (blk_cell HNr.out.gb 0).trans rfl
      have b1 : wr.cell? ⟨gg, 1, none⟩ = some (.slice Aa len ca) := (blk_cell HNr.out.gb 1).trans rfl
      have b2 : wr.cell? ⟨gg, 2, none⟩ = some (.slice Y y z) := (blk_cell HNr.out.gb 2).trans rfl
      have bl := blk_lt HNr.out.gb
      have z0 : wr.cell? ⟨w.heap.size + 1, 0, none⟩ = some (.int .i64 0) := (blk_cell HNr.out.zb 0).trans rfl
      have z1 : wr.cell? ⟨w.heap.size + 1, 1, none⟩ = some (.slice none 0 0) := (blk_cell HNr.out.zb 1).trans rfl
      have z2 : wr.cell? ⟨w.heap.size + 1, 2, none⟩ = some (.slice none 0 0) := (blk_cell HNr.out.zb 2).trans rfl
      have zl := blk_lt HNr.out.zb
      have zf : ∀ j, wr.frozen? ⟨w.heap.size + 1, j, none⟩ = false := fun j => blk_frozen HNr.out.zb j
      have p0 := blk_put HNr.out.zb 0 (.int .i64 n) (cs' := #[.int .i64 n, .slice none 0 0, .slice none 0 0]) rfl
      have p1 := blk_put p0 1 (.slice Aa len ca) (cs' := #[.int .i64 n, .slice Aa len ca, .slice none 0 0]) rfl
      have p2 := blk_put p1 2 (.slice Y y z) (cs' := #[.int .i64 n, .slice Aa len ca, .slice Y y z]) rfl
      have HP2 := Lib.hid p2
      have HRK := Lib.hid (Kd.R_set (Kd.R_set (Kd.R_set HNr.out.rk HNr.out.zb (by decide) 0 (.int .i64 n)) p0 (by decide) 1 (.slice Aa len ca)) p1 (by decide) 2 (.slice Y y z))
      have HBE := Lib.hid (((HNr.out.bel.setCell (p := ⟨w.heap.size + 1, 0, none⟩) (by simp) (.int .i64 n)).setCell (p := ⟨w.heap.size + 1, 1, none⟩) (by simp) (.slice Aa len ca)).setCell (p := ⟨w.heap.size + 1, 2, none⟩) (by simp) (.slice Y y z))
      clear p0 p1 p2
      go_wp2_with fail
      all_goals (try rw [Exit.noGoto_ret])
      all_goals (refine bodyPost_ret (results_ct rfl _ _ (w.heap.size + 1) 77 #[.int .i64 n, .slice Aa len ca, .slice Y y z] (0, 0) _ rfl HP2.out Tryz.underlying77 rfl (by kernel_rfl)) rfl ?_)
      all_goals exact ⟨_, K, rfl, HRK.out, HKE.out.1, HKE.out.2, HBE.out⟩
def OfPost (w : World) (n : Nat) (A : List S85) (r : Ending) (w' : World) : Prop := ∃ vr vw t rk H, r = .returned (.agg #[vr, vw]) ∧ BI n (EA A) n t rk H ∧ Kd.R (Kd.int .i64) 3 w' w.heap.size (fun _ => True) vr rk ∧ Kd.R k71 71 w' w.heap.size (fun _ => True) vw H ∧ Below w.heap.size w w'
theorem BI.good {n r : Nat} {E0 : Int → Int → Int → Prop} {t : TP} {rk : List Int} {H : List S71} (h : BI n E0 r t rk H) (hn : n ≤ 12) (hr : r < n) : GoodB n t rk H := by
  have h1 := wmR_top (show r ≤ 12 by omega)
  have h2 := wmR_pos r
  have h3 := h.llen
  have h4 := h.hlen
  have h5 : n * n * r ≤ 12 * 12 * 12 := Nat.mul_le_mul (Nat.mul_le_mul hn hn) (by omega)
  have h6 : 2 * n * r ≤ 2 * 12 * 12 := Nat.mul_le_mul (Nat.mul_le_mul (Nat.le_refl 2) hn) (by omega)
  exact ⟨fun e => by have := h.cnt; rw [e] at this; simp at this; omega, h.ok.nn, h.rl, ⟨wmR r, by omega, by omega, h.ok⟩, by omega, by omega, by omega⟩
set_option maxRecDepth 100000 in
set_option maxHeartbeats 4000000 in
theorem of9_walk (w : World) (n : Nat) (A : List S85) (Aa : Option Addr) (ca : Nat) (hC : Kd.C k85 w Aa A.length A) (hca : A.length ≤ ca) (hok : MapOk n A) :
    Calls Tryz.prog 13 #[.agg #[.int .i64 n, .slice Aa A.length ca]] w fun r w' => OfPost w n A r w' := by
  have HNG : Hid (∀ W, Below w.heap.size w W → Calls Tryz.prog 34 #[.agg #[.int .i64 n, .slice Aa A.length ca]] W fun r w' => NewGPost W n (.slice Aa A.length ca) A r w') := Lib.hid (fun W g => new6_walk W n A Aa ca (Kd.C_below hC g) hca hok)
  have HBL : Hid (∀ W, Below w.heap.size w W → ∀ (Ak : Option Addr) (ck : Nat) (K : List Int), Kd.C (Kd.int .i64) W Ak K.length K → K.length ≤ ck → K.length = A.length → (∀ q : Nat, q < A.length → (rd K (q : Int) = 1 ↔ Counts A q)) →
      Calls Tryz.prog 35 #[.agg #[.int .i64 n, .slice Aa A.length ca, .slice Ak K.length ck]] W fun r w' => BuildPost W n (BI n (EA A)) r w') := Lib.hid (fun W g Ak ck K hK hck hkl hkc => by
    obtain ⟨L, hL, hl, hm⟩ := new8_ok hok hkl
    obtain ⟨k, hk⟩ := hL.at
    have hn := hok.n1
    refine build_walk W n _ _ ⟨n, List.replicate n 1, L, List.replicate n 0⟩ (fun W' g' => ?_) rfl (by omega) ⟨_, _, _, rfl⟩ ⟨_, _, _, rfl⟩ (BI n (EA A)) (BI.start hok hkc hl hm) (fun r t rk H h hr => h.good hok.n1 hr) (fun r t rk H v L t' h _ hv hN hT => h.step hv hN hT)
    refine (postroadref08_New.calls k n Aa ca A Ak ck K n _ L _ W' (Kd.C_below hC (g.trans (g'.mono g.size))) hca (Kd.C_below hK g') hck hk).mono ?_
    rintro e w' ⟨v1, v2, v3, rfl, h1, h2, h3, h4⟩
    exact ⟨v1, v2, v3, rfl, ⟨Kd.R_mono h1 (fun _ _ => trivial), h2, Kd.R_mono h3 (fun _ _ => trivial), by simp, by simp, by simp only; omega, by simp only; omega⟩, h4⟩)
  obtain ⟨len, hlen⟩ : ∃ len, A.length = len := ⟨_, rfl⟩
  have HLEN := Lib.hid hlen
  have HBP : Hid (∀ (r : Ending) (w' : World), (∃ vr vw t rk H, r = .returned (.agg #[vr, vw]) ∧ BI n (EA A) n t rk H ∧ Kd.R (Kd.int .i64) 3 w' w.heap.size (fun _ => True) vr rk ∧ Kd.R k71 71 w' w.heap.size (fun _ => True) vw H ∧ Below w.heap.size w w') → OfPost w n A r w') := Lib.hid (fun r w' h => h)
  rw [hlen] at HNG HBL ⊢
  clear hC hca hok hlen
  have HG0 : Hid (Below w.heap.size w ((w.alloc (.cells #[.int .i64 n, .slice Aa len ca] 24)).alloc (.cells #[.slice none 0 0, .slice none 0 0] 31))) := Lib.hid (((Below.refl _ _).alloc (Nat.le_refl _) _).alloc (by simp) _)
  have HM0 : Hid (((w.alloc (.cells #[.int .i64 n, .slice Aa len ca] 24)).alloc (.cells #[.slice none 0 0, .slice none 0 0] 31)).heap[w.heap.size]? = some (.cells #[.int .i64 n, .slice Aa len ca] 24 (0, 0))) := Lib.hid (blk_alloc (blk_new w _) _)
  have HZ0 : Hid (((w.alloc (.cells #[.int .i64 n, .slice Aa len ca] 24)).alloc (.cells #[.slice none 0 0, .slice none 0 0] 31)).heap[w.heap.size + 1]? = some (.cells #[.slice none 0 0, .slice none 0 0] 31 (0, 0))) := Lib.hid (by have := blk_new (w.alloc (.cells #[.int .i64 n, .slice Aa len ca] 24)) (.cells #[.slice none 0 0, .slice none 0 0] 31); rw [World.size_alloc] at this; exact this)
  have a0 := (blk_cell HM0.out 0).trans rfl
  have a1 := (blk_cell HM0.out 1).trans rfl
  have al := blk_lt HM0.out
  go_enter Tryz.func13, Tryz.ntmps13
  go_upto_region 1 with fail
  generalize (w.alloc (.cells #[.int .i64 n, .slice Aa len ca] 24)).alloc (.cells #[.slice none 0 0, .slice none 0 0] 31) = W1 at *
  go_upto_region 2 with (first | (go_at_call 34; refine (HNG.out W1 HG0.out).mono ?_; rintro e W2 ⟨vk, K, rfl, hR, hKl, hKc, g2⟩; obtain ⟨Ak, ck, hvk, hck, hCk⟩ := Kd.R_reads hR; subst hvk; have HCK := Lib.hid hCk; have HKC := Lib.hid (And.intro hKl hKc); have HCL := Lib.hid hck; have HG2 := Lib.hid g2; clear hR hCk hKl hKc hck g2))
  have HW3 : Hid (Below W2.heap.size W2 (W2.alloc (.cells #[.int .i64 n, .slice Aa len ca, .slice Ak K.length ck] 77))) := Lib.hid ((Below.refl _ _).alloc (Nat.le_refl _) _)
  have HX3 := Lib.hid (blk_new W2 (.cells #[.int .i64 n, .slice Aa len ca, .slice Ak K.length ck] 77))
  have HG3 := Lib.hid ((HG0.out.trans (HG2.out.mono HG0.out.size)).trans (HW3.out.mono (Nat.le_trans HG0.out.size HG2.out.size)))
  have HZ3 : Hid ((W2.alloc (.cells #[.int .i64 n, .slice Aa len ca, .slice Ak K.length ck] 77)).heap[w.heap.size + 1]? = some (.cells #[.slice none 0 0, .slice none 0 0] 31 (0, 0))) := Lib.hid (blk_alloc ((HG2.out.block _ (blk_lt HZ0.out)).trans HZ0.out) _)
  have HCK3 := Lib.hid (Kd.C_below HCK.out HW3.out)
  clear a0 a1 al HM0 HZ0 HG0 HG2 HW3 HCK
  generalize W2.alloc (.cells #[.int .i64 n, .slice Aa len ca, .slice Ak K.length ck] 77) = W3 at *
  generalize W2.heap.size = gx at *
  have x0 := (blk_cell HX3.out 0).trans rfl
  have x1 := (blk_cell HX3.out 1).trans rfl
  have x2 := (blk_cell HX3.out 2).trans rfl
  have xl := blk_lt HX3.out
  have HCALL := Lib.hid (HBL.out W3 HG3.out Ak ck K HCK3.out HCL.out (by rw [HKC.out.1, HLEN.out]) (by rw [← HLEN.out] ; first | exact HKC.out.2 | (rw [HLEN.out]; exact HKC.out.2)))
  generalize K.length = kl at *
  go_wp2_with (first | (go_at_call 35; refine HCALL.out.mono ?_; rintro e W4 ⟨vr, vw, t, rk, H, rfl, hI, hRr, hRw, g4⟩; obtain ⟨Y1, z1, hvr⟩ := Kd.R_slice hRr; obtain ⟨Y2, z2, hvw⟩ := Kd.R_slice hRw; generalize hy1 : rk.length = y1 at hvr; generalize hy2 : H.length = y2 at hvw; subst hvr hvw; have HI := Lib.hid hI; have HRr := Lib.hid (Kd.R_lower hRr HG3.out.size); have HRw := Lib.hid (Kd.R_lower hRw HG3.out.size); have HG4 := Lib.hid (HG3.out.trans (g4.mono HG3.out.size)); have hz4 := (g4.block _ (blk_lt HZ3.out)).trans HZ3.out; have HZ4 := Lib.hid hz4; have z0' := (blk_cell hz4 0).trans rfl; have z1' := (blk_cell hz4 1).trans rfl; have zl := blk_lt hz4; have zf : ∀ j, W4.frozen? ⟨w.heap.size + 1, j, none⟩ = false := fun j => blk_frozen hz4 j; clear hI hRr hRw g4 hz4 hy1 hy2))
  have p0 := blk_put HZ4.out 0 (.slice Y1 y1 z1) (cs' := #[.slice Y1 y1 z1, .slice none 0 0]) rfl
  have p1 := blk_put p0 1 (.slice Y2 y2 z2) (cs' := #[.slice Y1 y1 z1, .slice Y2 y2 z2]) rfl
  all_goals (try rw [Exit.noGoto_ret])
  all_goals (refine bodyPost_ret (results_cell_row rfl _ _ (w.heap.size + 1) 31 #[.slice Y1 y1 z1, .slice Y2 y2 z2] (0, 0) _ rfl p1 Tryz.underlying31 rfl (by kernel_rfl)) rfl ?_)
  all_goals exact HBP.out _ _ ⟨_, _, t, rk, H, rfl, HI.out, Kd.R_set (Kd.R_set HRr.out HZ4.out (by decide) 0 _) p0 (by decide) 1 _, Kd.R_set (Kd.R_set HRw.out HZ4.out (by decide) 0 _) p0 (by decide) 1 _, (HG4.out.setCell (p := ⟨w.heap.size + 1, 0, none⟩) (by simp) _).setCell (p := ⟨w.heap.size + 1, 1, none⟩) (by simp) _⟩
end Go.Proofs.YtfkejflmhidnaaaGreat.PAll
