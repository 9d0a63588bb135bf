import Derived.Test.YtfkejflmhidnaaaQNeP
import Derived.Test.YtfkejflmhidnaaaQRcP
import Derived.Test.YtfkejflmhidnaaaQNwA
import Derived.Test.YtfkejflmhidnaaaQAlA
import Derived.Test.YtfkejflmhidnaaaQKnE
namespace Go.Proofs.Ytfkejflmhidnaaa.PAll
open Go.RowKit Go.Proofs.YtfkejflmhidnaaaW.PrintWords Go.Proofs.YtfkejflmhidnaaaW.PrintLast Go.Proofs.YtfkejflmhidnaaaW.PrintMore
open Hp hiding Good
set_option linter.unusedVariables false
set_option linter.unusedSimpArgs false

/-! ### the hierarchy when all places are taken: it may be -/
theorem BI.none {n : Nat} {E0 : Int → Int → Int → Prop} {t : TP} {rk : List Int} {H : List S66} (h : BI n E0 n t rk H) (z : Int) : isP t z = false := by
  cases hz : isP t z with
  | false => rfl
  | true =>
    exfalso
    have := placesP_mem.2 hz
    have h2 := h.cnt
    cases hp : placesP t with
    | nil => rw [hp] at this; simp at this
    | cons a l => rw [hp] at h2; simp at h2
theorem rd66_get {l : List S66} {i : Nat} (h : i < l.length) : rd_T66 l (i : Int) = l[i] := by simp [rd_T66, List.getD, h]
theorem BI.vh {n : Nat} {E0 : Int → Int → Int → Prop} {t : TP} {rk : List Int} {H : List S66} (h : BI n E0 n t rk H) (hn : n ≤ 12) : VH n rk H := by
  have hno := h.none
  have hnn := h.ok.nn
  have hlen : H.length ≤ 288 := by
    have := h.hlen
    have : 2 * n * n ≤ 2 * 12 * 12 := Nat.mul_le_mul (Nat.mul_le_mul (Nat.le_refl 2) hn) hn
    omega
  have hw := wmR_top hn
  refine ⟨by omega, by omega, h.rl, fun v hv => h.tak v hv (hno _), fun u v hu hv e => h.inj u v hu hv (hno _) (hno _) e, fun x hx => ?_, fun i j hi hj e0 e1 => ?_, fun x hx => ?_⟩
  · obtain ⟨h1, h2, h3, e, o, g, _⟩ := h.hw x hx
    have := g.e0
    have := g.e1
    have := g.o0
    have := g.o1
    rcases g.are with ⟨k1, k2⟩ | ⟨k1, k2⟩ <;> (rw [k1, k2] at h3 ⊢; exact ⟨by omega, by omega, by omega, by omega, h3, h1, by omega⟩)
  · have hp := List.pairwise_iff_getElem.1 h.uniq
    rw [rd66_get hi, rd66_get hj] at e0 e1
    rcases Nat.lt_trichotomy i j with h1 | h1 | h1
    · exact absurd ⟨e0, e1⟩ (hp i j hi hj h1)
    · exact h1
    · exact absurd ⟨e0.symm, e1.symm⟩ (hp j i hj hi h1)
  · obtain ⟨_, _, _, e, o, g, hr⟩ := h.hw x hx
    rcases hr with hr | ⟨hr, hlt⟩
    · exact .inl hr
    · have hot : rd rk e < rd rk o := by
        rcases g.ot with h1 | ⟨_, h1⟩
        · rw [hno] at h1; cases h1
        · exact h1
      obtain ⟨a, ha, b, hb, a0, a1, b0, b1, hs⟩ := hr.half
      obtain ⟨i, hi, ei⟩ := List.getElem_of_mem ha
      obtain ⟨j, hj, ej⟩ := List.getElem_of_mem hb
      refine .inr ⟨hr.mid, hr.arc, hr.m0, hr.m1, ?_, ?_, i, j, hi, hj, ?_⟩
      · rcases g.are with ⟨k1, k2⟩ | ⟨k1, k2⟩ <;> rw [k1] <;> omega
      · rcases g.are with ⟨k1, k2⟩ | ⟨k1, k2⟩ <;> rw [k2] <;> omega
      · rw [rd66_get hi, rd66_get hj, ei, ej]
        exact ⟨a0, a1, b0, b1, hs⟩

/-! ### what is come to by climbs is no nearer than in the map -/
theorem climb_true {n : Nat} {rank : List Int} {ways : List S66} (V : VH n rank ways) (x : List Int) (E0 : Int → Int → Int → Prop) (hs : ∀ y ∈ ways, Wk E0 y.f0 y.f1 y.f2.f0) (v : Nat) (hv : v < n) (top : Int) (back : Bool) (u d : Int)
    (h : climbF n rank top ((⟨rank, x, buildB rank ways n ways.length true, buildB rank ways n ways.length false⟩ : HierP).side back) v u = some d) : if back = true then Wk E0 u v d else Wk E0 v u d := by
  have hok := hok_new V x
  cases back with
  | false =>
    simp only [Bool.false_eq_true, if_false]
    refine climb_sound (P := fun u d => Wk E0 v u d) (hok.sides false) hok.wm0 (fun z e hz hp _ y hy => ?_) v hv (Wk.nil _ _) u d h
    obtain ⟨i, hi, _, e1, hr⟩ := buildB_mem rank ways n y ways.length true z hy
    rcases hr with ⟨_, _, h2, h3⟩ | ⟨hb, _⟩
    · have hw := hs _ (rd66_mem ways i hi)
      have h0 := (V.ends _ (rd66_mem ways i hi)).1
      rw [e1, h3]
      rw [show (rd_T66 ways (i : Int)).f0 = z by omega] at hw
      exact hp.append hw
    · cases hb
  | true =>
    simp only [if_true]
    refine climb_sound (P := fun u d => Wk E0 u v d) (hok.sides true) hok.wm0 (fun z e hz hp _ y hy => ?_) v hv (Wk.nil _ _) u d h
    obtain ⟨i, hi, _, e1, hr⟩ := buildB_mem rank ways n y ways.length false z hy
    rcases hr with ⟨hb, _⟩ | ⟨_, _, h2, h3⟩
    · cases hb
    · have hw := hs _ (rd66_mem ways i hi)
      have h0 := (V.ends _ (rd66_mem ways i hi)).2.2.1
      rw [e1, h3]
      rw [show (rd_T66 ways (i : Int)).f1 = z by omega] at hw
      have := hw.append hp
      rwa [Int.add_comm] at this

/-! ### two pointers find a part of a row -/
theorem sub_cons {a b : Int} {l m : List Int} (h : (a :: l).Sublist (b :: m)) : (a :: l).Sublist m ∨ a = b := by
  cases h with
  | cons _ h => exact .inl h
  | cons_cons _ h => exact .inr rfl
theorem sub_step {y x : List Int} {j i : Nat} (h : (y.drop j).Sublist (x.drop i)) (hi : i < x.length) : (j < y.length ∧ rd y (j : Int) = rd x (i : Int) → (y.drop (j + 1)).Sublist (x.drop (i + 1))) ∧ (¬ (j < y.length ∧ rd y (j : Int) = rd x (i : Int)) → (y.drop j).Sublist (x.drop (i + 1))) := by
  rw [List.drop_eq_getElem_cons hi] at h
  refine ⟨fun ⟨hj, e⟩ => ?_, fun hn => ?_⟩
  · rw [List.drop_eq_getElem_cons hj] at h
    rw [rd_get hj, rd_get hi] at e
    rw [e] at h
    exact List.cons_sublist_cons.1 h
  · by_cases hj : j < y.length
    · have hne : ¬ rd y (j : Int) = rd x (i : Int) := fun e => hn ⟨hj, e⟩
      rw [rd_get hj, rd_get hi] at hne
      rw [List.drop_eq_getElem_cons hj] at h ⊢
      rcases sub_cons h with h | h
      · exact h
      · exact absurd h hne
    · rw [List.drop_of_length_le (by omega)]
      exact List.nil_sublist _
theorem sub_done {y : List Int} {j : Nat} (h : (y.drop j).Sublist []) (hj : j ≤ y.length) : j = y.length := by
  have h1 := List.eq_nil_of_sublist_nil h
  have h2 := congrArg List.length h1
  rw [List.length_drop] at h2
  simp at h2
  omega
theorem lowAt_in {n : Nat} {k : Int} (h0 : 0 ≤ k) (h1 : k ≤ n) : lowAt n k = n - k := by
  unfold lowAt clipP mx mn
  (repeat' split) <;> omega
end Go.Proofs.Ytfkejflmhidnaaa.PAll

namespace Go.Proofs.Ytfkejflmhidnaaa.PAll
open Go.RowKit Go.Proofs.YtfkejflmhidnaaaW.PrintWords Go.Proofs.YtfkejflmhidnaaaW.PrintLast Go.Proofs.YtfkejflmhidnaaaW.PrintMore
open Hp hiding Good
set_option linter.unusedVariables false
set_option linter.unusedSimpArgs false

/-- a row of how far it is, in memory -/
theorem at_row {W : World} {A : Option Addr} {n : Nat} {out : List (List Int)} (h : Kd.C (Kd.slice 3 (Kd.int .i64)) W A n out) (v : Nat) (hv : v < n) :
    ∃ ad B c, A = some ad ∧ W.cell? (ad.add v) = some (.slice B (out.getD v []).length c) ∧ (out.getD v []).length ≤ c ∧ Kd.C (Kd.int .i64) W B (out.getD v []).length (out.getD v []) := by
  obtain ⟨ad, cs, hA, _, ⟨B, c, hcs, hlc, hrow⟩, hc0⟩ := Kd.C_get h [] (v : Int) (by omega) (by omega)
  rw [Int.toNat_natCast] at hcs hlc hrow hc0
  subst hcs
  have := hc0 0 _ rfl
  refine ⟨ad, B, c, hA, ?_, hlc, hrow⟩
  simpa [Kd.slice] using this
theorem tmod_nat {a : Int} (h0 : 0 ≤ a) (n : Nat) (hn : 0 < n) : ∃ v : Nat, Int.tmod a n = v ∧ v < n := by
  have h1 : Int.tmod a n < n := Int.tmod_lt_of_pos a (by omega)
  have h2 : 0 ≤ Int.tmod a n := Int.tmod_nonneg _ h0
  exact ⟨(Int.tmod a n).toNat, by omega, by omega⟩

set_option maxRecDepth 100000 in
set_option maxHeartbeats 8000000 in
/-- AccessFewer: true -/
theorem fewer_walk (w : World) (a0 : Int) (A1 : Option Addr) (c1 : Nat) (l1 : List S79) (hr1 : Kd.C k79 w A1 l1.length l1) (hc1 : l1.length ≤ c1) (a k : Int) (ha0 : 0 ≤ a) (ha1 : a ≤ 255) (hk0 : 0 ≤ k) (hk1 : k ≤ 255) (back : Bool) :
    Calls Try.prog 3 #[.int .i64 a0, .slice A1 l1.length c1, .int .u8 a, .int .u8 k, .bool back] w fun r w' => r = .returned (.bool true) ∧ Below w.heap.size w w' := by
  obtain ⟨n, A, hE, hok⟩ := of_ok a0 l1
  obtain ⟨kf, hkf⟩ := hE.at
  have HOF : Hid (Calls Try.prog 8 #[.int .i64 a0, .slice A1 l1.length c1] w fun e w' => ∃ Aa ca, e = .returned (.agg #[.int .i64 n, .slice Aa A.length ca]) ∧ A.length ≤ ca ∧ Kd.C k79 w' Aa A.length A ∧ Below w.heap.size w w') := Lib.hid ((postroadref07_Of.calls kf a0 A1 c1 l1 n A w hr1 hc1 hkf).mono (fun e w' ⟨v1, h1, h2, h3⟩ => by
    obtain ⟨Aa, ca, hv, hca, hC⟩ := Kd.R_reads h2
    exact ⟨Aa, ca, by rw [h1, hv], hca, hC, h3⟩))
  have HOK := Lib.hid hok
  have hn0 := hok.n0
  have hn1 := hok.n1
  obtain ⟨v, hv, hvn⟩ := tmod_nat ha0 n (by omega)
  obtain ⟨c, hc, hcn⟩ := tmod_nat hk0 n (by omega)
  have HKN : Hid (∀ W, Calls Try.prog 15 #[] W fun r w' => r = .returned (.bool true) ∧ Below W.heap.size W w') := Lib.hid (fun W => known_walk W)
  clear hE hkf hok hr1 hc1
  have hwa : IntKind.i64.wrap a = a := i64w rfl (by omega) (by omega)
  have hwk : IntKind.i64.wrap k = k := i64w rfl (by omega) (by omega)
  have hwc : IntKind.i64.wrap ((c : Int) + 1) = (c : Int) + 1 := i64w rfl (by omega) (by omega)
  have hwn : IntKind.i64.wrap ((n : Int) - (c : Int)) = (n : Int) - (c : Int) := i64w rfl (by omega) (by omega)
  have hnz : ((n : Int) == 0) = false := by simp; omega
  have hnz' : (n : Int) ≠ 0 := by omega
  have hnz2 : (n == 0) = false := by simp; omega
  go_enter Try.func3, Try.ntmps3
  go_upto_region 2 with (first | (go_at_call 8; refine HOF.out.mono ?_; rintro e W2 ⟨Aa, ca, rfl, hca, hCA, g2⟩; have HCA := Lib.hid (And.intro hca hCA); have HG2 := Lib.hid g2; clear hca hCA g2))
  have HM3 := Lib.hid (blk_new W2 (.cells #[.int .i64 n, .slice Aa A.length ca] 24))
  have HG3 : Hid (Below w.heap.size w (W2.alloc (.cells #[.int .i64 n, .slice Aa A.length ca] 24))) := Lib.hid (HG2.out.alloc HG2.out.size _)
  have HCA3 : Hid (A.length ≤ ca ∧ Kd.C k79 (W2.alloc (.cells #[.int .i64 n, .slice Aa A.length ca] 24)) Aa A.length A) := Lib.hid ⟨HCA.out.1, Kd.C_alloc HCA.out.2 _⟩
  clear HCA HG2
  generalize W2.alloc (.cells #[.int .i64 n, .slice Aa A.length ca] 24) = W3 at *
  generalize W2.heap.size = gm at *
  have m0 := (blk_cell HM3.out 0).trans rfl
  have m1 := (blk_cell HM3.out 1).trans rfl
  have ml := blk_lt HM3.out
  have HO9 := Lib.hid (of9_walk W3 n A Aa ca HCA3.out.2 HCA3.out.1 HOK.out)
  go_upto_region 3 with (first | (go_at_call 10; refine HO9.out.mono ?_; rintro e W4 ⟨vr, vw, t, rk, H, rfl, hBI, hRr, hRw, g4⟩; obtain ⟨rA, rc, hvr, hrc, hrC⟩ := Kd.R_reads hRr; obtain ⟨wA, wc, hvw, hwc', hwC⟩ := Kd.R_reads hRw; subst hvr hvw; have hrl : rk.length = n := hBI.rl; rw [hrl] at hrC hrc ⊢; have HBI := Lib.hid hBI; have HG4 := Lib.hid g4; have HNW := Lib.hid (hnew_walk W4 n rk H (hBI.vh hn1) rA wA rc wc hrC hwC); clear hBI hRr hRw g4 hrC hwC hrc hwc' hrl) | (go_at_call 9; refine HNW.out.mono ?_; rintro e W5 ⟨xb, x, rfl, hHR, hX, g5⟩; have HHR := Lib.hid hHR; have HG5 := Lib.hid g5; clear hHR hX g5))
  have HB5 := Lib.hid (HG3.out.trans ((HG4.out.trans (HG5.out.mono HG4.out.size)).mono HG3.out.size))
  have hm5 : W5.heap[gm]? = some (.cells #[.int .i64 n, .slice Aa A.length ca] 24 (0, 0)) := (HG5.out.block _ (blk_lt ((HG4.out.block _ (blk_lt HM3.out)).trans HM3.out))).trans ((HG4.out.block _ (blk_lt HM3.out)).trans HM3.out)
  have HM5 := Lib.hid hm5
  have HA7 : Hid (∀ W, Below W5.heap.size W5 W → Calls Try.prog 12 #[.agg #[.int .i64 n, .slice Aa A.length ca]] W fun r w' => AllPost W n A r w') := Lib.hid (fun W g => all7_walk W n A Aa ca (Kd.C_below (Kd.C_below (Kd.C_below HCA3.out.2 HG4.out) HG5.out) g) HCA3.out.1 HOK.out)
  have HHH : Hid (∃ h : HierP, (⟨rk, x, buildB rk H n H.length true, buildB rk H n H.length false⟩ : HierP) = h ∧ HierRep W5 xb n h ∧ HOk n 1125899906842624 h ∧ (∀ (top : Int) (u d : Int), climbF n h.rank top (h.side back) v u = some d → if back = true then Wk (EA A) u v d else Wk (EA A) v u d)) := Lib.hid ⟨_, rfl, HHR.out, hok_new (HBI.out.vh hn1) x, fun top u d e => climb_true (HBI.out.vh hn1) x (EA A) HBI.out.sh v hvn top back u d e⟩
  obtain ⟨h, _, hrep, hokh, hclimb⟩ := HHH.out
  have HRP := Lib.hid hrep
  have HSU : Hid (∀ W, Below W5.heap.size W5 W → ∀ kk : Int, Calls Try.prog 11 #[.pointer (some ⟨xb, 0, none⟩), .int .i64 v, .int .i64 kk, .bool back] W fun r w' => RowPost W ((lowP n h v (lowAt n kk) back).map (·.f0)) r w') := Lib.hid (fun W g kk => (sub_walk W xb n h _ (hrep.below g) hokh v hvn kk back).mono (fun r w' hh => RowPost.of hh))
  have HRA : Hid (∀ W, Below W5.heap.size W5 W → Calls Try.prog 13 #[.pointer (some ⟨xb, 0, none⟩), .int .i64 v, .int .i64 c, .bool back] W fun r w' => ∃ v2, r = .returned v2 ∧ Kd.R k39 39 w' W.heap.size (fun _ => True) v2 (highP n h v (lowAt n c) back) ∧ Below W.heap.size W w') := Lib.hid (fun W g => raw_walk W xb n h _ (hrep.below g) hokh v hvn c back)
  have HRK : Hid (∀ W, Below W5.heap.size W5 W → ∀ u : Nat, u < n → Calls Try.prog 14 #[.pointer (some ⟨xb, 0, none⟩), .int .i64 u] W fun r w' => r = .returned (.int .i64 (rd h.rank u)) ∧ W = w') := Lib.hid (fun W g u hu => rank_walk W xb n h (hrep.below g) u hu)
  have HLS : Hid (((lowP n h v (lowAt n ((c : Int) + 1)) back).map (·.f0)).Sublist ((lowP n h v (lowAt n c) back).map (·.f0))) := Lib.hid (low_sub hokh v hvn back _ _ (by rw [lowAt_in (by omega) (by omega), lowAt_in (by omega) (by omega)]; omega))
  have HZM : Hid (∀ z ∈ highP n h v (lowAt n c) back, ∃ u : Nat, u < n ∧ z.f0 = u ∧ (n : Int) - c ≤ rd h.rank u ∧ (if back = true then Wk (EA A) u v z.f1 else Wk (EA A) v u z.f1)) := Lib.hid (fun z hz => by
    obtain ⟨u, hu, e0, e1, e2⟩ := rowsP_mem hz
    rw [decide_eq_true_eq, lowAt_in (by omega) (by omega)] at e2
    exact ⟨u, hu, e0, e2, hclimb _ _ _ e1⟩)
  have hlx : ((lowP n h v (lowAt n c) back).map (·.f0)).length ≤ n := by rw [List.length_map]; exact rowsP_len _ _ _
  have hly : ((lowP n h v (lowAt n ((c : Int) + 1)) back).map (·.f0)).length ≤ n := by rw [List.length_map]; exact rowsP_len _ _ _
  have hlz : (highP n h v (lowAt n c) back).length ≤ n := rowsP_len _ _ _
  obtain ⟨xs, hxs⟩ : ∃ xs, (lowP n h v (lowAt n c) back).map (·.f0) = xs := ⟨_, rfl⟩
  obtain ⟨ys, hys⟩ : ∃ ys, (lowP n h v (lowAt n ((c : Int) + 1)) back).map (·.f0) = ys := ⟨_, rfl⟩
  obtain ⟨zs, hzs⟩ : ∃ zs, highP n h v (lowAt n c) back = zs := ⟨_, rfl⟩
  have HXC : Hid (∀ W, Below W5.heap.size W5 W → Calls Try.prog 11 #[.pointer (some ⟨xb, 0, none⟩), .int .i64 v, .int .i64 c, .bool back] W fun r w' => RowPost W xs r w') := Lib.hid (by rw [← hxs]; exact fun W g => HSU.out W g c)
  have HYC : Hid (∀ W, Below W5.heap.size W5 W → Calls Try.prog 11 #[.pointer (some ⟨xb, 0, none⟩), .int .i64 v, .int .i64 ((c : Int) + 1), .bool back] W fun r w' => RowPost W ys r w') := Lib.hid (by rw [← hys]; exact fun W g => HSU.out W g ((c : Int) + 1))
  rw [hzs] at HRA HZM hlz
  rw [hxs] at HLS hlx
  rw [hys] at HLS hly
  clear hxs hys hzs HSU hm5 m0 m1 ml HM3 HG3 HCA3 HG4 HG5 HHR HNW HO9 HOF HHH hrep hokh hclimb
  have m0 : W5.cell? ⟨gm, 0, none⟩ = some (.int .i64 n) := (blk_cell HM5.out 0).trans rfl
  have ml := blk_lt HM5.out
  go_upto_region 5 with fail
  go_upto_region 6 with (first | (go_at_call 11; refine (HXC.out W5 (Below.refl _ _)).mono ?_; rintro e W6 ⟨Xa, xc, rfl, hxc, hXC, g6⟩; have HXX := Lib.hid (And.intro hxc hXC); have HG6 := Lib.hid g6; clear hxc hXC g6))
  go_upto_region 7 with (first | (go_at_call 11; refine (HYC.out W6 HG6.out).mono ?_; rintro e W7 ⟨Ya, yc, rfl, hyc, hYC, g7⟩; have HYY := Lib.hid (And.intro hyc hYC); have HX7 := Lib.hid (Kd.C_below HXX.out.2 g7); have HG7 := Lib.hid (HG6.out.trans (g7.mono HG6.out.size)); clear hyc hYC g7))
  obtain ⟨nx, hnx⟩ : ∃ nx, xs.length = nx := ⟨_, rfl⟩
  obtain ⟨ny, hny⟩ : ∃ ny, ys.length = ny := ⟨_, rfl⟩
  have HNX := Lib.hid hnx
  have HNY := Lib.hid hny
  have HY7 := Lib.hid HYY.out.2
  rw [hnx] at HX7 hlx
  rw [hny] at HY7 hly
  rw [hnx, hny]
  clear hnx hny HXX HYY HG6 m0 ml
  have HS0 : Hid ((ys.drop 0).Sublist (xs.drop 0)) := Lib.hid (by rw [List.drop_zero, List.drop_zero]; exact HLS.out)
  go_wp2_with fail
  go_loopw [17, 18] (fun v17 v18 wr => ∃ (j i : Nat), v17 = .int .i64 j ∧ v18 = .int .i64 i ∧ i ≤ nx ∧ j ≤ ny ∧ Hid (Below W7.heap.size W7 wr) ∧ Hid ((ys.drop j).Sublist (xs.drop i))) (fun _ v18 _ => nx - (intOf v18).toNat)
  case atStart => exact ⟨0, 0, rfl, rfl, by omega, by omega, Lib.hid (Below.refl _ _), HS0⟩
  case round =>
    obtain ⟨j, i, rfl, rfl, hi, hj, HG, HS⟩ := hrel
    by_cases hlt : i < nx
    · obtain ⟨ax, hAx, rx⟩ := Kd.at_int (Kd.C_below HX7.out HG.out) (i : Int) (by omega) (by omega)
      subst hAx
      have rx' : wr.cell? (ax.add i) = some (.int .i64 (rd xs i)) := rx
      have hi0 : (0 : Int) ≤ (i : Int) := Int.natCast_nonneg _
      have hi1 : (i : Int) < (nx : Int) := by omega
      have hj0 : (0 : Int) ≤ (j : Int) := Int.natCast_nonneg _
      have HST := Lib.hid (sub_step HS.out (by rw [HNX.out]; exact hlt))
      have lax : ax.block < wr.heap.size := by
        have h := World.block_lt_of_cell? _ (ax.add i) rx'
        have e : (ax.add i).block = ax.block := by unfold Addr.add; split <;> rfl
        rwa [e] at h
      clear rx
      by_cases hjn : j < ny
      · obtain ⟨ay, hAy, ry⟩ := Kd.at_int (Kd.C_below HY7.out HG.out) (j : Int) (by omega) (by omega)
        subst hAy
        have ry' : wr.cell? (ay.add j) = some (.int .i64 (rd ys j)) := ry
        have lay : ay.block < wr.heap.size := by
          have h := World.block_lt_of_cell? _ (ay.add j) ry'
          have e : (ay.add j).block = ay.block := by unfold Addr.add; split <;> rfl
          rwa [e] at h
        have d0 : decide ((j : Int) < (ny : Int)) = true := by simpa using hjn
        have d1 : decide (j < ny) = true := by simpa using hjn
        have hj1 : (j : Int) < (ny : Int) := by omega
        clear ry
        by_cases heq : rd ys (j : Int) = rd xs (i : Int)
        · have HS2 := Lib.hid (HST.out.1 ⟨by rw [HNY.out]; exact hjn, heq⟩)
          have hsame : (rd ys (j : Int) == rd xs (i : Int)) = true := by simp [heq]
          generalize rd ys (j : Int) = qy at *
          generalize rd xs (i : Int) = qx at *
          clear heq HST HS
          go_wp2_with fail
          go_region
          go_wp2_with fail
          go_roundw
          case measure => simp [intOf]; omega
          case rel => exact ⟨j + 1, i + 1, by go_num, by go_num, by omega, by omega, Lib.hid HG.out.drew, HS2⟩
        · have HS2 := Lib.hid (HST.out.2 (fun f => heq f.2))
          have hsame : (rd ys (j : Int) == rd xs (i : Int)) = false := by simp [heq]
          generalize rd ys (j : Int) = qy at *
          generalize rd xs (i : Int) = qx at *
          clear heq HST HS
          go_wp2_with fail
          go_region
          go_wp2_with fail
          go_roundw
          case measure => simp [intOf]; omega
          case rel => exact ⟨j, i + 1, rfl, by go_num, by omega, by omega, Lib.hid HG.out.drew, HS2⟩
      · have HS2 := Lib.hid (HST.out.2 (fun f => hjn (by rw [← HNY.out]; exact f.1)))
        have d0 : decide ((j : Int) < (ny : Int)) = false := by simpa using hjn
        have d1 : decide (j < ny) = false := by simpa using hjn
        generalize rd xs (i : Int) = qx at *
        clear HST HS
        go_wp2_with fail
        go_region
        go_wp2_with fail
        go_roundw
        case measure => simp [intOf]; omega
        case rel => exact ⟨j, i + 1, rfl, by go_num, by omega, by omega, Lib.hid HG.out.drew, HS2⟩
    · have hil : nx ≤ i := by omega
      have hjy : j = ny := by
        have h1 := HS.out
        rw [List.drop_of_length_le (show xs.length ≤ i by rw [HNX.out]; exact hil)] at h1
        have := sub_done h1 (by rw [HNY.out]; exact hj)
        rw [this, HNY.out]
      have e0 : ((j : Int) != (ny : Int)) = false := by simp [hjy]
      have e1 : ((j : Int) == (ny : Int)) = true := by simp [hjy]
      have e2 : (j == ny) = true := by simp [hjy]
      have HGR := Lib.hid (HG7.out.trans (HG.out.mono HG7.out.size))
      have hmr := (HGR.out.block _ (blk_lt HM5.out)).trans HM5.out
      have m0 := (blk_cell hmr 0).trans rfl
      have m1 := (blk_cell hmr 1).trans rfl
      have ml := blk_lt hmr
      clear hmr hjy HS
      go_upto_region 16 with (first | (go_at_call 12; refine (HA7.out wr HGR.out).mono ?_; rintro e W8 ⟨va, out, rfl, hR, hol, hrows, g8⟩; obtain ⟨Oa, oc, hva, hoc, hOC⟩ := Kd.R_reads hR; subst hva; have HOC := Lib.hid hOC; have HOL := Lib.hid hol; have HRW := Lib.hid hrows; have HG8 := Lib.hid (HGR.out.trans (g8.mono HGR.out.size)); clear hR hoc hOC hol hrows g8))
      clear m0 m1 ml
      rw [HOL.out] at HOC
      rw [HOL.out]
      go_upto_region 17 with (first | (go_at_call 13; refine (HRA.out W8 HG8.out).mono ?_; rintro e W9 ⟨vz, rfl, hR, g9⟩; obtain ⟨Za, zc, hvz, hzc, hZC⟩ := Kd.R_reads hR; subst hvz; have HZC := Lib.hid hZC; have HOC9 := Lib.hid (Kd.C_below HOC.out g9); have HG9 := Lib.hid (HG8.out.trans (g9.mono HG8.out.size)); clear hR hzc hZC g9))
      obtain ⟨nz, hnz9⟩ : ∃ nz, zs.length = nz := ⟨_, rfl⟩
      have HNZ := Lib.hid hnz9
      rw [hnz9] at HZC hlz
      rw [hnz9]
      clear hnz9 HOC
      go_wp2_with fail
      go_loopw [21] (fun v21 wr => ∃ i : Nat, v21 = .int .i64 i ∧ i ≤ nz ∧ Hid (Below W9.heap.size W9 wr)) (fun v21 _ => nz - (intOf v21).toNat)
      case atStart => exact ⟨0, rfl, by omega, Lib.hid (Below.refl _ _)⟩
      case round =>
        obtain ⟨i, rfl, hi, HGi⟩ := hrel
        clear HG
        by_cases hlt : i < nz
        · obtain ⟨az, hAz, z0, z1⟩ := at_T39 (Kd.C_below HZC.out HGi.out) (i : Int) (by omega) (by omega)
          subst hAz
          simp only [Int.toNat_natCast] at z0 z1
          obtain ⟨u, hu, eu, hru, hwk⟩ := HZM.out (rd_T39 zs (i : Int)) (by
            have e : rd_T39 zs (i : Int) = zs[i]'(by rw [HNZ.out]; exact hlt) := by simp [rd_T39, List.getD, HNZ.out, hlt]
            rw [e]; exact List.getElem_mem _)
          have hrv := HRW.out v hvn
          have hruu := HRW.out u hu
          obtain ⟨ao, Bv, bvc, hAo, ov, hovl, hCv⟩ := at_row (Kd.C_below HOC9.out HGi.out) v hvn
          obtain ⟨ao', Bu, buc, hAo', ou, houl, hCu⟩ := at_row (Kd.C_below HOC9.out HGi.out) u hu
          rw [hAo] at hAo'
          obtain rfl := Option.some.inj hAo'
          rw [hrv.len] at ov hovl hCv
          rw [hruu.len] at ou houl hCu
          obtain ⟨bv, hBv, cv⟩ := Kd.at_int hCv (u : Int) (by omega) (by omega)
          obtain ⟨bu, hBu, cu⟩ := Kd.at_int hCu (v : Int) (by omega) (by omega)
          have cv' : wr.cell? (bv.add u) = some (.int .i64 (rd (out.getD v []) u)) := cv
          have cu' : wr.cell? (bu.add v) = some (.int .i64 (rd (out.getD u []) v)) := cu
          subst hAo hBv hBu
          rw [eu] at z0
          have HD : Hid (∃ d, (if back = true then rd (out.getD u []) (v : Int) else rd (out.getD v []) (u : Int)) = d ∧ 0 ≤ d ∧ d ≤ (rd_T39 zs (i : Int)).f1) := Lib.hid ⟨_, rfl, by
            cases back with
            | false => simp only [Bool.false_eq_true, if_false] at hwk ⊢; exact hrv.least hwk
            | true => simp only [if_true] at hwk ⊢; exact hruu.least hwk⟩
          obtain ⟨d, hd, hd0, hd1⟩ := HD.out
          have HDD := Lib.hid hd
          have hi0 : (0 : Int) ≤ (i : Int) := Int.natCast_nonneg _
          have hi1 : (i : Int) < (nz : Int) := by omega
          have hv0 : (0 : Int) ≤ (v : Int) := Int.natCast_nonneg _
          have hv1 : (v : Int) < (n : Int) := by omega
          have hu0 : (0 : Int) ≤ (u : Int) := Int.natCast_nonneg _
          have hu1 : (u : Int) < (n : Int) := by omega
          have blkadd : ∀ (a : Addr) (q : Nat), (a.add q).block = a.block := fun a q => by unfold Addr.add; split <;> rfl
          have l1' : az.block < wr.heap.size := by have h := World.block_lt_of_cell? _ _ z0; rwa [blkadd] at h
          have l2' : ao.block < wr.heap.size := by have h := World.block_lt_of_cell? _ _ ov; rwa [blkadd] at h
          have l3' : bv.block < wr.heap.size := by have h := World.block_lt_of_cell? _ _ cv'; rwa [blkadd] at h
          have l4' : bu.block < wr.heap.size := by have h := World.block_lt_of_cell? _ _ cu'; rwa [blkadd] at h
          have HGR2 := Lib.hid (HG9.out.trans (HGi.out.mono HG9.out.size))
          have hmr := (HGR2.out.block _ (blk_lt HM5.out)).trans HM5.out
          have m0 : wr.cell? ⟨gm, 0, none⟩ = some (.int .i64 n) := (blk_cell hmr 0).trans rfl
          have ml := blk_lt hmr
          have HRU : Hid (∀ W, Below W9.heap.size W9 W → Calls Try.prog 14 #[.pointer (some ⟨xb, 0, none⟩), .int .i64 u] W fun r w' => r = .returned (.int .i64 (rd h.rank u)) ∧ W = w') := Lib.hid (fun W g => HRK.out W (HG9.out.trans (g.mono HG9.out.size)) u hu)
          generalize rd (out.getD v []) (u : Int) = dv at *
          generalize rd (out.getD u []) (v : Int) = du at *
          generalize (rd_T39 zs (i : Int)).f1 = D at *
          generalize rd h.rank (u : Int) = ru at *
          clear hrv hruu hCv hCu cv cu hovl houl hwk hd HD blkadd hmr
          go_upto_region 20 with fail
          go_cut [22] from 90 to 100 (fun v22 wx => v22 = .int .i64 dv ∧ wx = wr.drew)
          case first =>
            go_region
            all_goals (try go_wp2_with fail)
            all_goals go_meet
            all_goals exact ⟨rfl, rfl⟩
          case rest =>
          obtain ⟨rfl, rfl⟩ := hcut
          rename_i hK
          refine hK _ _ ?_
          refine wp_seq_k ?_
          intro K0 hK0
          have HLD : Hid (∀ (p : Addr) (q : Value), wr.cell? p = some q → wr.drew.cell? p = some q) := Lib.hid (fun p q h => h)
          have z0d := HLD.out _ _ z0
          have z1d := HLD.out _ _ z1
          have ovd := HLD.out _ _ ov
          have oud := HLD.out _ _ ou
          have cvd := HLD.out _ _ cv'
          have cud := HLD.out _ _ cu'
          have m0d := HLD.out _ _ m0
          have l1d : az.block < wr.drew.heap.size := l1'
          have l2d : ao.block < wr.drew.heap.size := l2'
          have l4d : bu.block < wr.drew.heap.size := l4'
          have mld : gm < wr.drew.heap.size := ml
          have HGW : Hid (Below W9.heap.size W9 wr.drew) := Lib.hid HGi.out.drew
          have HGW5 : Hid (Below W5.heap.size W5 wr.drew) := Lib.hid HGR2.out.drew
          clear z0 z1 ov ou cv' cu' m0 l1' l2' l3' l4' ml HLD HGi HGR2
          generalize wr.drew = W10 at *
          go_cut [22] from 101 to 112 (fun v22 wx => v22 = .int .i64 d ∧ wx = W10)
          case first =>
            cases back with
            | false =>
              have hdv : dv = d := HDD.out
              subst hdv
              go_wp2_with fail
              all_goals go_meet
              all_goals exact ⟨rfl, rfl⟩
            | true =>
              have hdu : du = d := HDD.out
              subst hdu
              go_wp2_with fail
              all_goals go_meet
              all_goals exact ⟨rfl, rfl⟩
          case rest =>
          obtain ⟨rfl, hwx⟩ := hcut
          subst hwx
          refine hK0 _ _ ?_
          have t1 : decide (ru < (n : Int) - (c : Int)) = false := decide_eq_false (by omega)
          have t2 : decide (d < 0) = false := decide_eq_false (by omega)
          have t3 : decide (d > D) = false := decide_eq_false (by omega)
          clear cvd cud ovd oud hd0 hd1 hru
          go_upto_region 23 with fail
          refine start_ (n := 25) (S := fun w' => w'.cell? (az.add (i * 2)) = some (.int .i64 u) ∧ w'.cell? ⟨(az.add (i * 2)).block, (az.add (i * 2)).off + 1, none⟩ = some (.int .i64 D) ∧ w'.cell? ⟨gm, 0, none⟩ = some (.int .i64 n)) (ds := []) #[false, false, false, false, false, false, false, false, false, false, false, false, false, false, false, false, false, false, false, false, false, false, false, false, false] (by kernel_rfl) rfl rfl ⟨z0d, z1d, m0d⟩ (fun hHeld => ?_)
          refine pure_ (i := 0) (N := some 113) (v := ?_) (a' := ?_) #[true, false, false, false, false, false, false, false, false, false, false, false, false, false, false, false, false, false, false, false, false, false, false, false, false] rfl rfl (by kernel_rfl) (fun _ _ _ h => h) (Or.inl ⟨by rfl, ?_⟩) ?_ ?_
          rotate_left
          · intro w'
            go_simp
            with_reducible rfl
          rotate_left
          · simp only [Act.put, List.setIfInBounds_toArray, List.set_cons_zero, List.set_cons_succ, i64_w, i32_w]
            rfl
          refine pure_ (i := 1) (N := some 114) (v := ?_) (a' := ?_) #[true, true, false, false, false, false, false, false, false, false, false, false, false, false, false, false, false, false, false, false, false, false, false, false, false] rfl rfl (by kernel_rfl) (fun _ _ _ h => h) (Or.inl ⟨by rfl, ?_⟩) ?_ ?_
          rotate_left
          · intro w'
            go_simp
            with_reducible rfl
          rotate_left
          · simp only [Act.put, List.setIfInBounds_toArray, List.set_cons_zero, List.set_cons_succ, i64_w, i32_w]
            rfl
          refine pure_ (i := 2) (N := some 115) (v := ?_) (a' := ?_) #[true, true, true, false, false, false, false, false, false, false, false, false, false, false, false, false, false, false, false, false, false, false, false, false, false] rfl rfl (by kernel_rfl) (fun _ _ _ h => h) (Or.inl ⟨by rfl, ?_⟩) ?_ ?_
          rotate_left
          · intro w'
            go_simp
            with_reducible rfl
          rotate_left
          · simp only [Act.put, List.setIfInBounds_toArray, List.set_cons_zero, List.set_cons_succ, i64_w, i32_w]
            rfl
          refine pure_ (i := 3) (N := some 116) (v := ?_) (a' := ?_) #[true, true, true, true, false, false, false, false, false, false, false, false, false, false, false, false, false, false, false, false, false, false, false, false, false] rfl rfl (by kernel_rfl) (fun _ _ _ h => h) (Or.inl ⟨by rfl, ?_⟩) ?_ ?_
          rotate_left
          · intro w'
            go_simp
            with_reducible rfl
          rotate_left
          · simp only [Act.put, List.setIfInBounds_toArray, List.set_cons_zero, List.set_cons_succ, i64_w, i32_w]
            rfl
          refine pure_ (i := 4) (N := some 117) (v := ?_) (a' := ?_) #[true, true, true, true, true, false, false, false, false, false, false, false, false, false, false, false, false, false, false, false, false, false, false, false, false] rfl rfl (by kernel_rfl) (fun _ _ _ h => h) (Or.inl ⟨by rfl, ?_⟩) ?_ ?_
          rotate_left
          · intro w'
            go_simp
            with_reducible rfl
          rotate_left
          · simp only [Act.put, List.setIfInBounds_toArray, List.set_cons_zero, List.set_cons_succ, i64_w, i32_w]
            rfl
          refine pure_ (i := 7) (N := some 120) (v := ?_) (a' := ?_) #[true, true, true, true, true, false, false, true, false, false, false, false, false, false, false, false, false, false, false, false, false, false, false, false, false] rfl rfl (by kernel_rfl) (fun _ _ _ h => h) (Or.inl ⟨by rfl, ?_⟩) ?_ ?_
          rotate_left
          · intro w'
            go_simp
            with_reducible rfl
          rotate_left
          · simp only [Act.put, List.setIfInBounds_toArray, List.set_cons_zero, List.set_cons_succ, i64_w, i32_w]
            rfl
          refine pure_ (i := 9) (N := some 122) (v := ?_) (a' := ?_) #[true, true, true, true, true, false, false, true, false, true, false, false, false, false, false, false, false, false, false, false, false, false, false, false, false] rfl rfl (by kernel_rfl) (fun _ _ _ h => h) (Or.inl ⟨by rfl, ?_⟩) ?_ ?_
          rotate_left
          · intro w'
            go_simp
            with_reducible rfl
          rotate_left
          · simp only [Act.put, List.setIfInBounds_toArray, List.set_cons_zero, List.set_cons_succ, i64_w, i32_w]
            rfl
          refine take_ (i := 5) (N := some 118) (v := ?_) (a' := ?_) #[true, true, true, true, true, true, false, true, false, true, false, false, false, false, false, false, false, false, false, false, false, false, false, false, false] rfl rfl (by kernel_rfl) (fun _ _ _ h => h) (Or.inl ⟨by rfl, ?_⟩) hHeld ?_ ?_
          rotate_left
          · rintro w' ⟨s0, s1, s2⟩
            go_simp
            with_reducible rfl
          rotate_left
          · simp only [Act.put, List.setIfInBounds_toArray, List.set_cons_zero, List.set_cons_succ, i64_w, i32_w]
            rfl
          refine take_ (i := 8) (N := some 121) (v := ?_) (a' := ?_) #[true, true, true, true, true, true, false, true, true, true, false, false, false, false, false, false, false, false, false, false, false, false, false, false, false] rfl rfl (by kernel_rfl) (fun _ _ _ h => h) (Or.inl ⟨by rfl, ?_⟩) hHeld ?_ ?_
          rotate_left
          · rintro w' ⟨s0, s1, s2⟩
            go_simp
            with_reducible rfl
          rotate_left
          · simp only [Act.put, List.setIfInBounds_toArray, List.set_cons_zero, List.set_cons_succ, i64_w, i32_w]
            rfl
          refine pure_ (i := 10) (N := some 123) (v := ?_) (a' := ?_) #[true, true, true, true, true, true, false, true, true, true, true, false, false, false, false, false, false, false, false, false, false, false, false, false, false] rfl rfl (by kernel_rfl) (fun _ _ _ h => h) (Or.inl ⟨by rfl, ?_⟩) ?_ ?_
          rotate_left
          · intro w'
            go_simp
            with_reducible rfl
          rotate_left
          · simp only [Act.put, List.setIfInBounds_toArray, List.set_cons_zero, List.set_cons_succ, i64_w, i32_w]
            rfl
          refine one_ (i := 6) (N := some 119) #[true, true, true, true, true, true, true, true, true, true, true, false, false, false, false, false, false, false, false, false, false, false, false, false, false] rfl rfl (by kernel_rfl) (by decide) (fun K hK => ?_)
          refine goes_ Try.func14 (by kernel_rfl) rfl #[.pointer (some ⟨xb, 0, none⟩), .int .i64 u] (by rfl) rfl rfl (by simp only [List.map_toArray, List.map_cons, List.map_nil]; rfl) ?_
          with_reducible refine (HRU.out _ HGW.out.drew).mono ?_
          rintro e w3 ⟨rfl, rfl⟩
          refine ⟨_, rfl, ?_⟩
          refine hK.out _ _ ⟨hHeld.1, hHeld.2.1, hHeld.2.2⟩ (fun hHeld => ?_)
          clear hK K
          refine norm_ (a' := ?_) ?_ ?_
          rotate_left
          · show Act.put _ (some 119) _ = _
            simp only [Act.put, List.setIfInBounds_toArray, List.set_cons_zero, List.set_cons_succ, i64_w, i32_w]
            rfl
          refine pure_ (i := 11) (N := some 124) (v := ?_) (a' := ?_) #[true, true, true, true, true, true, true, true, true, true, true, true, false, false, false, false, false, false, false, false, false, false, false, false, false] rfl rfl (by kernel_rfl) (fun _ _ _ h => h) (Or.inl ⟨by rfl, ?_⟩) ?_ ?_
          rotate_left
          · intro w'
            go_simp
            with_reducible rfl
          rotate_left
          · simp only [Act.put, List.setIfInBounds_toArray, List.set_cons_zero, List.set_cons_succ, i64_w, i32_w]
            rfl
          refine pure_ (i := 12) (N := some 125) (v := ?_) (a' := ?_) #[true, true, true, true, true, true, true, true, true, true, true, true, true, false, false, false, false, false, false, false, false, false, false, false, false] rfl rfl (by kernel_rfl) (fun _ _ _ h => h) (Or.inl ⟨by rfl, ?_⟩) ?_ ?_
          rotate_left
          · intro w'
            go_simp
            with_reducible rfl
          rotate_left
          · simp only [Act.put, List.setIfInBounds_toArray, List.set_cons_zero, List.set_cons_succ, i64_w, i32_w]
            rfl
          refine pure_ (i := 13) (N := some 126) (v := ?_) (a' := ?_) #[true, true, true, true, true, true, true, true, true, true, true, true, true, true, false, false, false, false, false, false, false, false, false, false, false] rfl rfl (by kernel_rfl) (fun _ _ _ h => h) (Or.inl ⟨by rfl, ?_⟩) ?_ ?_
          rotate_left
          · intro w'
            go_simp
            with_reducible rfl
          rotate_left
          · simp only [Act.put, List.setIfInBounds_toArray, List.set_cons_zero, List.set_cons_succ, i64_w, i32_w]
            rfl
          refine pure_ (i := 14) (N := some 127) (v := ?_) (a' := ?_) #[true, true, true, true, true, true, true, true, true, true, true, true, true, true, true, false, false, false, false, false, false, false, false, false, false] rfl rfl (by kernel_rfl) (fun _ _ _ h => h) (Or.inl ⟨by rfl, ?_⟩) ?_ ?_
          rotate_left
          · intro w'
            go_simp
            with_reducible rfl
          rotate_left
          · simp only [Act.put, List.setIfInBounds_toArray, List.set_cons_zero, List.set_cons_succ, i64_w, i32_w]
            rfl
          refine pure_ (i := 15) (N := some 128) (v := ?_) (a' := ?_) #[true, true, true, true, true, true, true, true, true, true, true, true, true, true, true, true, false, false, false, false, false, false, false, false, false] rfl rfl (by kernel_rfl) (fun _ _ _ h => h) (Or.inl ⟨by rfl, ?_⟩) ?_ ?_
          rotate_left
          · intro w'
            go_simp
            with_reducible rfl
          rotate_left
          · simp only [Act.put, List.setIfInBounds_toArray, List.set_cons_zero, List.set_cons_succ, i64_w, i32_w]
            rfl
          refine pure_ (i := 16) (N := some 129) (v := ?_) (a' := ?_) #[true, true, true, true, true, true, true, true, true, true, true, true, true, true, true, true, true, false, false, false, false, false, false, false, false] rfl rfl (by kernel_rfl) (fun _ _ _ h => h) (Or.inl ⟨by rfl, ?_⟩) ?_ ?_
          rotate_left
          · intro w'
            go_simp
            with_reducible rfl
          rotate_left
          · simp only [Act.put, List.setIfInBounds_toArray, List.set_cons_zero, List.set_cons_succ, i64_w, i32_w]
            rfl
          refine pure_ (i := 17) (N := some 130) (v := ?_) (a' := ?_) #[true, true, true, true, true, true, true, true, true, true, true, true, true, true, true, true, true, true, false, false, false, false, false, false, false] rfl rfl (by kernel_rfl) (fun _ _ _ h => h) (Or.inl ⟨by rfl, ?_⟩) ?_ ?_
          rotate_left
          · intro w'
            go_simp
            with_reducible rfl
          rotate_left
          · simp only [Act.put, List.setIfInBounds_toArray, List.set_cons_zero, List.set_cons_succ, i64_w, i32_w]
            rfl
          refine pure_ (i := 18) (N := some 131) (v := ?_) (a' := ?_) #[true, true, true, true, true, true, true, true, true, true, true, true, true, true, true, true, true, true, true, false, false, false, false, false, false] rfl rfl (by kernel_rfl) (fun _ _ _ h => h) (Or.inl ⟨by rfl, ?_⟩) ?_ ?_
          rotate_left
          · intro w'
            go_simp
            with_reducible rfl
          rotate_left
          · simp only [Act.put, List.setIfInBounds_toArray, List.set_cons_zero, List.set_cons_succ, i64_w, i32_w]
            rfl
          refine pure_ (i := 19) (N := some 132) (v := ?_) (a' := ?_) #[true, true, true, true, true, true, true, true, true, true, true, true, true, true, true, true, true, true, true, true, false, false, false, false, false] rfl rfl (by kernel_rfl) (fun _ _ _ h => h) (Or.inl ⟨by rfl, ?_⟩) ?_ ?_
          rotate_left
          · intro w'
            go_simp
            with_reducible rfl
          rotate_left
          · simp only [Act.put, List.setIfInBounds_toArray, List.set_cons_zero, List.set_cons_succ, i64_w, i32_w]
            rfl
          refine pure_ (i := 20) (N := some 133) (v := ?_) (a' := ?_) #[true, true, true, true, true, true, true, true, true, true, true, true, true, true, true, true, true, true, true, true, true, false, false, false, false] rfl rfl (by kernel_rfl) (fun _ _ _ h => h) (Or.inl ⟨by rfl, ?_⟩) ?_ ?_
          rotate_left
          · intro w'
            go_simp
            with_reducible rfl
          rotate_left
          · simp only [Act.put, List.setIfInBounds_toArray, List.set_cons_zero, List.set_cons_succ, i64_w, i32_w]
            rfl
          refine pure_ (i := 21) (N := some 134) (v := ?_) (a' := ?_) #[true, true, true, true, true, true, true, true, true, true, true, true, true, true, true, true, true, true, true, true, true, true, false, false, false] rfl rfl (by kernel_rfl) (fun _ _ _ h => h) (Or.inl ⟨by rfl, ?_⟩) ?_ ?_
          rotate_left
          · intro w'
            go_simp
            with_reducible rfl
          rotate_left
          · simp only [Act.put, List.setIfInBounds_toArray, List.set_cons_zero, List.set_cons_succ, i64_w, i32_w]
            rfl
          refine take_ (i := 22) (N := some 135) (v := ?_) (a' := ?_) #[true, true, true, true, true, true, true, true, true, true, true, true, true, true, true, true, true, true, true, true, true, true, true, false, false] rfl rfl (by kernel_rfl) (fun _ _ _ h => h) (Or.inl ⟨by rfl, ?_⟩) hHeld ?_ ?_
          rotate_left
          · rintro w' ⟨s0, s1, s2⟩
            go_simp
            with_reducible rfl
          rotate_left
          · simp only [Act.put, List.setIfInBounds_toArray, List.set_cons_zero, List.set_cons_succ, i64_w, i32_w]
            rfl
          refine pure_ (i := 23) (N := some 136) (v := ?_) (a' := ?_) #[true, true, true, true, true, true, true, true, true, true, true, true, true, true, true, true, true, true, true, true, true, true, true, true, false] rfl rfl (by kernel_rfl) (fun _ _ _ h => h) (Or.inl ⟨by rfl, ?_⟩) ?_ ?_
          rotate_left
          · intro w'
            go_simp
            with_reducible rfl
          rotate_left
          · simp only [Act.put, List.setIfInBounds_toArray, List.set_cons_zero, List.set_cons_succ, i64_w, i32_w]
            rfl
          refine pure_ (i := 24) (N := some 137) (v := ?_) (a' := ?_) #[true, true, true, true, true, true, true, true, true, true, true, true, true, true, true, true, true, true, true, true, true, true, true, true, true] rfl rfl (by kernel_rfl) (fun _ _ _ h => h) (Or.inl ⟨by rfl, ?_⟩) ?_ ?_
          rotate_left
          · intro w'
            go_simp
            with_reducible rfl
          rotate_left
          · simp only [Act.put, List.setIfInBounds_toArray, List.set_cons_zero, List.set_cons_succ, i64_w, i32_w]
            rfl
          refine done_ (by kernel_rfl) ?_
          go_wp2_with fail
          go_roundw
          case measure => simp [intOf]; omega
          case rel => exact ⟨i + 1, by go_num, by omega, Lib.hid HGW.out.drew⟩
        · have hil : nz ≤ i := by omega
          have HBR := Lib.hid (HB5.out.trans ((HG9.out.trans (HGi.out.mono HG9.out.size)).mono HB5.out.size))
          go_wp2_with fail
          refine (HKN.out _).mono ?_
          rintro e WK ⟨rfl, gk⟩
          have HBK := Lib.hid (HBR.out.trans (gk.mono HBR.out.size))
          clear gk
          go_wp2_with fail
          all_goals (try rw [Exit.noGoto_ret])
          all_goals go_ret
          all_goals exact ⟨rfl, HBK.out⟩
end Go.Proofs.Ytfkejflmhidnaaa.PAll
