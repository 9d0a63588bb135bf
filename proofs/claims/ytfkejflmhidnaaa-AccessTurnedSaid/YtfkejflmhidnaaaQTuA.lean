import Derived.Test.YtfkejflmhidnaaaQFtC
import Derived.Test.YtfkejflmhidnaaaQBtA
import Derived.Test.YtfkejflmhidnaaaQLoA
namespace Go.Proofs.Ytfkejflmhidnaaa.PAll
open Go.RowKit Go.Proofs.YtfkejflmhidnaaaW.PrintWords Go.Proofs.YtfkejflmhidnaaaW.PrintLast Go.Proofs.YtfkejflmhidnaaaW.PrintMore
open Hp hiding Good
set_option linter.unusedVariables false
set_option linter.unusedSimpArgs false

/-- the boxes of AccessTurned -/
structure TB (w W : World) (s1 s2 : Value) (x0 x1 y0 y1 : Int) : Prop where
  B0 : W.heap[w.heap.size]? = some (.cells #[s1, s2] 31 (0, 0))
  B1 : W.heap[w.heap.size + 1]? = some (.cells #[.int .i64 x0, .int .i64 x1] 39 (0, 0))
  B2 : W.heap[w.heap.size + 1 + 1]? = some (.cells #[.int .i64 y0, .int .i64 y1] 39 (0, 0))
  bel : Below w.heap.size w W
theorem TB.below {w W W' : World} {s1 s2 : Value} {x0 x1 y0 y1 : Int} (h : TB w W s1 s2 x0 x1 y0 y1) (g : Below W.heap.size W W') : TB w W' s1 s2 x0 x1 y0 y1 :=
  ⟨(g.block _ (blk_lt h.B0)).trans h.B0, (g.block _ (blk_lt h.B1)).trans h.B1, (g.block _ (blk_lt h.B2)).trans h.B2, h.bel.trans (g.mono h.bel.size)⟩
theorem TB.cells {w W : World} {s1 s2 : Value} {x0 x1 y0 y1 : Int} (h : TB w W s1 s2 x0 x1 y0 y1) :
    W.cell? ⟨w.heap.size, 0, none⟩ = some s1 ∧ W.cell? ⟨w.heap.size, 1, none⟩ = some s2 ∧ W.cell? ⟨w.heap.size + 1, 0, none⟩ = some (.int .i64 x0) ∧ W.cell? ⟨w.heap.size + 1, 1, none⟩ = some (.int .i64 x1) ∧
      W.cell? ⟨w.heap.size + 1 + 1, 0, none⟩ = some (.int .i64 y0) ∧ W.cell? ⟨w.heap.size + 1 + 1, 1, none⟩ = some (.int .i64 y1) ∧ w.heap.size < W.heap.size ∧ w.heap.size + 1 < W.heap.size ∧ w.heap.size + 1 + 1 < W.heap.size :=
  ⟨(blk_cell h.B0 0).trans rfl, (blk_cell h.B0 1).trans rfl, (blk_cell h.B1 0).trans rfl, (blk_cell h.B1 1).trans rfl, (blk_cell h.B2 0).trans rfl, (blk_cell h.B2 1).trans rfl, blk_lt h.B0, blk_lt h.B1, blk_lt h.B2⟩
theorem TB.new (w : World) (s1 s2 : Value) (x0 x1 y0 y1 : Int) : TB w (((w.alloc (.cells #[s1, s2] 31)).alloc (.cells #[.int .i64 x0, .int .i64 x1] 39)).alloc (.cells #[.int .i64 y0, .int .i64 y1] 39)) s1 s2 x0 x1 y0 y1 := by
  refine ⟨blk_alloc (blk_alloc (blk_new w _) _) _, ?_, ?_, (((Below.refl _ w).alloc (Nat.le_refl _) _).alloc (by simp) _).alloc (by simp; omega) _⟩
  · have := blk_new (w.alloc (.cells #[s1, s2] 31)) (.cells #[.int .i64 x0, .int .i64 x1] 39)
    rw [World.size_alloc] at this
    exact blk_alloc this _
  · have := blk_new ((w.alloc (.cells #[s1, s2] 31)).alloc (.cells #[.int .i64 x0, .int .i64 x1] 39)) (.cells #[.int .i64 y0, .int .i64 y1] 39)
    rwa [World.size_alloc, World.size_alloc] at this
theorem pair_adj : ∀ (l : List Int), (∀ i : Nat, 1 ≤ i → i < l.length → rd l ((i - 1 : Nat) : Int) < rd l (i : Int)) → l.Pairwise (fun a b => a < b)
  | [], _ => List.Pairwise.nil
  | x :: l, h => by
    have ih := pair_adj l (fun i h1 h2 => by
      have := h (i + 1) (by omega) (by simp; omega)
      have e1 : rd (x :: l) (((i + 1 - 1 : Nat)) : Int) = rd l ((i - 1 : Nat) : Int) := by
        obtain ⟨k, rfl⟩ : ∃ k, i = k + 1 := ⟨i - 1, by omega⟩
        simp [rd]
      have e2 : rd (x :: l) ((i + 1 : Nat) : Int) = rd l (i : Int) := by
        have : ((i + 1 : Nat) : Int).toNat = i + 1 := by omega
        simp [rd, this]
      rw [e1, e2] at this
      exact this)
    refine List.Pairwise.cons (fun y hy => ?_) ih
    cases l with
    | nil => simp at hy
    | cons z l =>
      have hz : x < z := by
        have := h 1 (by omega) (by simp)
        simpa [rd] using this
      rcases List.mem_cons.1 hy with rfl | hy
      · exact hz
      · have := (List.pairwise_cons.1 ih).1 y hy
        omega

set_option maxRecDepth 100000 in
set_option maxHeartbeats 4000000 in
/-- AccessTurned: true -/
theorem turned_walk (w : World) (rA wA Aa Ab : Option Addr) (rc wc ca cb : Nat) (rank : List Int) (ways : List S66) (a b : List Int) (x0 x1 y0 y1 : Int) (back : Bool) (hr : Kd.C (Kd.int .i64) w rA rank.length rank) (hw : Kd.C k66 w wA ways.length ways)
    (hCa : Kd.C (Kd.int .i64) w Aa a.length a) (hca : a.length ≤ ca) (hCb : Kd.C (Kd.int .i64) w Ab b.length b) (hcb : b.length ≤ cb) :
    Calls Try.prog 7 #[.agg #[.slice rA rank.length rc, .slice wA ways.length wc], .slice Aa a.length ca, .slice Ab b.length cb, .agg #[.int .i64 x0, .int .i64 x1], .agg #[.int .i64 y0, .int .i64 y1], .bool back] w fun r w' => r = .returned (.bool true) ∧ Below w.heap.size w w' := by
  have HT1 := Lib.hid (TB.new w (.slice rA rank.length rc) (.slice wA ways.length wc) x0 x1 y0 y1)
  have HFIT : Hid (∀ W, Below w.heap.size w W → Calls Try.prog 16 #[.agg #[.slice rA rank.length rc, .slice wA ways.length wc]] W fun r w' => FPost W rank.length rank ways r w') := Lib.hid (fun W g => fit_walk W rA wA rc wc rank ways (Kd.C_below hr g) (Kd.C_below hw g))
  have HNEW : Hid (∀ W, Below w.heap.size w W → VH rank.length rank ways → Calls Try.prog 9 #[.agg #[.slice rA rank.length rc, .slice wA ways.length wc]] W fun r w' => ∃ xb h, r = .returned (.pointer (some ⟨xb, 0, none⟩)) ∧ HierRep w' xb rank.length h ∧ HOk rank.length 1125899906842624 h ∧ Below W.heap.size W w') := Lib.hid (fun W g V =>
    (hnew_walk W rank.length rank ways V rA wA rc wc (Kd.C_below hr g) (Kd.C_below hw g)).mono (fun r w' hh => by
      obtain ⟨xb, x, e1, e2, e3, e4⟩ := hh
      exact ⟨xb, _, e1, e2, hok_new V x, e4⟩))
  have HKN : Hid (∀ W, Calls Try.prog 15 #[] W fun r w' => r = .returned (.bool true) ∧ Below W.heap.size W w') := Lib.hid (fun W => known_walk W)
  have HCA := Lib.hid hCa
  have HCB := Lib.hid hCb
  have HLO : Hid (∀ W, Below w.heap.size w W → a.Pairwise (fun a b => a < b) → b.Pairwise (fun a b => a < b) → a.length ≤ 60 → b.length ≤ 60 →
      (Calls Try.prog 29 #[.slice Aa a.length ca, .slice Ab b.length cb] W fun r w' => r = .returned (.bool (localP a b)) ∧ Below W.heap.size W w') ∧ (Calls Try.prog 29 #[.slice Ab b.length cb, .slice Aa a.length ca] W fun r w' => r = .returned (.bool (localP a b)) ∧ Below W.heap.size W w') ∧
      (Calls Try.prog 29 #[.slice Aa a.length ca, .slice Aa a.length ca] W fun r w' => r = .returned (.bool (decide (0 < a.length))) ∧ Below W.heap.size W w')) := Lib.hid (fun W g ha hb la lb =>
    ⟨local_walk W Aa Ab ca cb a b (Kd.C_below hCa g) hca (Kd.C_below hCb g) hcb hb (by omega) (by omega), by rw [localP_comm a b]; exact local_walk W Ab Aa cb ca b a (Kd.C_below hCb g) hcb (Kd.C_below hCa g) hca ha (by omega) (by omega),
      by rw [← localP_self a]; exact local_walk W Aa Aa ca ca a a (Kd.C_below hCa g) hca (Kd.C_below hCa g) hca ha (by omega) (by omega)⟩)
  clear hr hw hCa hCb hca hcb
  go_enter Try.func7, Try.ntmps7
  go_wp2_with fail
  generalize (((w.alloc (.cells #[.slice rA rank.length rc, .slice wA ways.length wc] 31)).alloc (.cells #[.int .i64 x0, .int .i64 x1] 39)).alloc (.cells #[.int .i64 y0, .int .i64 y1] 39)) = W1 at *
  refine (HFIT.out W1 HT1.out.bel).mono ?_
  rintro e W2 ⟨bf, rfl, hV, g⟩
  have HT2 := Lib.hid (HT1.out.below g)
  have HV := Lib.hid hV
  clear g hV HT1 HFIT
  obtain ⟨c0, c1, d0, d1, k0, k1, l0, l1, l2⟩ := HT2.out.cells
  cases bf with
  | false =>
    go_wp2_with fail
    refine (HKN.out _).mono ?_
    rintro e WK ⟨rfl, gk⟩
    have HBK := Lib.hid (HT2.out.bel.trans (gk.mono HT2.out.bel.size))
    clear gk
    go_wp2_with fail
    all_goals (try rw [Exit.noGoto_ret])
    all_goals go_ret
    all_goals exact ⟨rfl, HBK.out⟩
  | true =>
    have HVH := Lib.hid (HV.out rfl)
    clear HV
    by_cases la : a.length > 60
    · have e1 : decide ((a.length : Int) > 60) = true := by simp; omega
      clear la
      go_wp2_with fail
      refine (HKN.out _).mono ?_
      rintro e WK ⟨rfl, gk⟩
      have HBK := Lib.hid (HT2.out.bel.trans (gk.mono HT2.out.bel.size))
      clear gk
      go_wp2_with fail
      all_goals (try rw [Exit.noGoto_ret])
      all_goals go_ret
      all_goals exact ⟨rfl, HBK.out⟩
    have e1 : decide ((a.length : Int) > 60) = false := by simp; omega
    by_cases lb : b.length > 60
    · have e2 : decide ((b.length : Int) > 60) = true := by simp; omega
      clear la lb
      go_wp2_with fail
      refine (HKN.out _).mono ?_
      rintro e WK ⟨rfl, gk⟩
      have HBK := Lib.hid (HT2.out.bel.trans (gk.mono HT2.out.bel.size))
      clear gk
      go_wp2_with fail
      all_goals (try rw [Exit.noGoto_ret])
      all_goals go_ret
      all_goals exact ⟨rfl, HBK.out⟩
    have e2 : decide ((b.length : Int) > 60) = false := by simp; omega
    by_cases hx0 : x1 < 0
    · have e3 : decide (x1 < 0) = true := by simp; omega
      clear la lb hx0
      go_wp2_with fail
      refine (HKN.out _).mono ?_
      rintro e WK ⟨rfl, gk⟩
      have HBK := Lib.hid (HT2.out.bel.trans (gk.mono HT2.out.bel.size))
      clear gk
      go_wp2_with fail
      all_goals (try rw [Exit.noGoto_ret])
      all_goals go_ret
      all_goals exact ⟨rfl, HBK.out⟩
    have e3 : decide (x1 < 0) = false := by simp; omega
    by_cases hy0 : y1 < 0
    · have e4 : decide (y1 < 0) = true := by simp; omega
      clear la lb hx0 hy0
      go_wp2_with fail
      refine (HKN.out _).mono ?_
      rintro e WK ⟨rfl, gk⟩
      have HBK := Lib.hid (HT2.out.bel.trans (gk.mono HT2.out.bel.size))
      clear gk
      go_wp2_with fail
      all_goals (try rw [Exit.noGoto_ret])
      all_goals go_ret
      all_goals exact ⟨rfl, HBK.out⟩
    have e4 : decide (y1 < 0) = false := by simp; omega
    by_cases hx1 : x1 > 1000000000000
    · have e5 : decide (x1 > 1000000000000) = true := by simp; omega
      clear la lb hx0 hy0 hx1
      go_wp2_with fail
      refine (HKN.out _).mono ?_
      rintro e WK ⟨rfl, gk⟩
      have HBK := Lib.hid (HT2.out.bel.trans (gk.mono HT2.out.bel.size))
      clear gk
      go_wp2_with fail
      all_goals (try rw [Exit.noGoto_ret])
      all_goals go_ret
      all_goals exact ⟨rfl, HBK.out⟩
    have e5 : decide (x1 > 1000000000000) = false := by simp; omega
    by_cases hy1 : y1 > 1000000000000
    · have e6 : decide (y1 > 1000000000000) = true := by simp; omega
      clear la lb hx0 hy0 hx1 hy1
      go_wp2_with fail
      refine (HKN.out _).mono ?_
      rintro e WK ⟨rfl, gk⟩
      have HBK := Lib.hid (HT2.out.bel.trans (gk.mono HT2.out.bel.size))
      clear gk
      go_wp2_with fail
      all_goals (try rw [Exit.noGoto_ret])
      all_goals go_ret
      all_goals exact ⟨rfl, HBK.out⟩
    have e6 : decide (y1 > 1000000000000) = false := by simp; omega
    have HRNG : Hid (0 ≤ x1 ∧ x1 ≤ 2305843009213693952 ∧ 0 ≤ y1 ∧ y1 ≤ 2305843009213693952) := Lib.hid (by omega)
    have HLEN : Hid (a.length ≤ 60 ∧ b.length ≤ 60) := Lib.hid (by omega)
    clear la lb hx0 hy0 hx1 hy1
    go_wp2_with fail
    refine (HNEW.out W2 HT2.out.bel HVH.out).mono ?_
    rintro e W3 ⟨xb, h, rfl, hR, hok, g⟩
    have HT3 := Lib.hid (HT2.out.below g)
    have HBE : Hid (∀ W, Below W3.heap.size W3 W → ∀ p q : S39, 0 ≤ p.f1 → p.f1 ≤ 2305843009213693952 → Calls Try.prog 28 #[.pointer (some ⟨xb, 0, none⟩), .agg #[.int .i64 p.f0, .int .i64 p.f1], .agg #[.int .i64 q.f0, .int .i64 q.f1], .bool back] W fun r w' => r = .returned (.bool (beatsP rank.length h back p q)) ∧ Below W.heap.size W w') := Lib.hid (fun W g p q h0 h1 =>
      beats_walk W xb rank.length h _ (hR.below g) hok p q back h0 h1)
    have hnn : beatsP rank.length h back ⟨x0, x1⟩ ⟨y0, y1⟩ = true → beatsP rank.length h back ⟨y0, y1⟩ ⟨x0, x1⟩ = true → False := beats_not hok hR.small back ⟨x0, x1⟩ ⟨y0, y1⟩
    have hself := beats_self rank.length h back ⟨x0, x1⟩
    have HB1 : Hid (∀ W, Below W3.heap.size W3 W → Calls Try.prog 28 #[.pointer (some ⟨xb, 0, none⟩), .agg #[.int .i64 x0, .int .i64 x1], .agg #[.int .i64 y0, .int .i64 y1], .bool back] W fun r w' => r = .returned (.bool (beatsP rank.length h back ⟨x0, x1⟩ ⟨y0, y1⟩)) ∧ Below W.heap.size W w') := Lib.hid (fun W g => HBE.out W g ⟨x0, x1⟩ ⟨y0, y1⟩ HRNG.out.1 HRNG.out.2.1)
    have HB2 : Hid (∀ W, Below W3.heap.size W3 W → Calls Try.prog 28 #[.pointer (some ⟨xb, 0, none⟩), .agg #[.int .i64 y0, .int .i64 y1], .agg #[.int .i64 x0, .int .i64 x1], .bool back] W fun r w' => r = .returned (.bool (beatsP rank.length h back ⟨y0, y1⟩ ⟨x0, x1⟩)) ∧ Below W.heap.size W w') := Lib.hid (fun W g => HBE.out W g ⟨y0, y1⟩ ⟨x0, x1⟩ HRNG.out.2.2.1 HRNG.out.2.2.2)
    have HB3 : Hid (∀ W, Below W3.heap.size W3 W → Calls Try.prog 28 #[.pointer (some ⟨xb, 0, none⟩), .agg #[.int .i64 x0, .int .i64 x1], .agg #[.int .i64 x0, .int .i64 x1], .bool back] W fun r w' => r = .returned (.bool false) ∧ Below W.heap.size W w') := Lib.hid (fun W g => by rw [← hself]; exact HBE.out W g ⟨x0, x1⟩ ⟨x0, x1⟩ HRNG.out.1 HRNG.out.2.1)
    generalize beatsP rank.length h back ⟨x0, x1⟩ ⟨y0, y1⟩ = V1 at *
    generalize beatsP rank.length h back ⟨y0, y1⟩ ⟨x0, x1⟩ = V2 at *
    have HNN := Lib.hid hnn
    clear c0 c1 d0 d1 k0 k1 l0 l1 l2 e1 e2 e3 e4 e5 e6 hR hok hnn hself HBE HNEW HVH g
    obtain ⟨c0, c1, d0, d1, k0, k1, l0, l1, l2⟩ := HT3.out.cells
    go_wp2_with fail
    refine (HB1.out W3 (Below.refl _ _)).mono ?_
    rintro e W4 ⟨rfl, g⟩
    have HT4 := Lib.hid (HT3.out.below g)
    have HG4 := Lib.hid g
    clear c0 c1 d0 d1 k0 k1 l0 l1 l2 g
    obtain ⟨c0, c1, d0, d1, k0, k1, l0, l1, l2⟩ := HT4.out.cells
    have HGO : Hid (∃ W5, Calls Try.prog 15 #[] W5 fun _ _ => True) := Lib.hid ⟨W4, (HKN.out W4).mono (fun _ _ _ => trivial)⟩
    clear HGO
    have HTAIL : Hid (∀ W, Below W3.heap.size W3 W → Below w.heap.size w W) := Lib.hid (fun W g => HT3.out.bel.trans (g.mono HT3.out.bel.size))
    cases V1 with
    | true =>
      have hv2 : V2 = false := by
        cases V2
        · rfl
        · exact (HNN.out rfl rfl).elim
      subst hv2
      go_wp2_with fail
      refine (HB2.out W4 HG4.out).mono ?_
      rintro e W5 ⟨rfl, g⟩
      have HT5 := Lib.hid (HT4.out.below g)
      have HG5 := Lib.hid (HG4.out.trans (g.mono HG4.out.size))
      clear c0 c1 d0 d1 k0 k1 l0 l1 l2 g
      obtain ⟨c0, c1, d0, d1, k0, k1, l0, l1, l2⟩ := HT5.out.cells
      go_wp2_with fail
      refine (HB3.out W5 HG5.out).mono ?_
      rintro e W6 ⟨rfl, g⟩
      have HT6 := Lib.hid (HT5.out.below g)
      clear c0 c1 d0 d1 k0 k1 l0 l1 l2 g HB1 HB2 HB3 HNN HTAIL HG4 HG5
      -- TAIL1
      go_wp2_with fail
      go_loopw [14] (fun vi wr => ∃ i : Nat, vi = .int .i64 i ∧ 1 ≤ i ∧ (i ≤ a.length ∨ i = 1) ∧ Hid (TB w wr (.slice rA rank.length rc) (.slice wA ways.length wc) x0 x1 y0 y1) ∧ Hid (∀ j : Nat, 1 ≤ j → j < i → rd a ((j - 1 : Nat) : Int) < rd a (j : Int))) (fun vi _ => a.length - (intOf vi).toNat)
      case atStart => exact ⟨1, rfl, by omega, .inr rfl, HT6, Lib.hid (fun j h1 h2 => by omega)⟩
      case round =>
        obtain ⟨i, rfl, hi1, hi2, HTr, HS⟩ := hrel
        have h60 : a.length ≤ 60 := HLEN.out.1
        by_cases hlt : i < a.length
        · obtain ⟨ad, hAd, hc⟩ := Kd.at_int (Kd.C_below HCA.out HTr.out.bel) (i : Int) (by omega) (by omega)
          obtain ⟨ad', hAd', hd⟩ := Kd.at_int (Kd.C_below HCA.out HTr.out.bel) ((i - 1 : Nat) : Int) (by omega) (by omega)
          rw [hAd] at hAd'
          obtain rfl := Option.some.inj hAd'
          have hc' : wr.cell? (ad.add i) = some (.int .i64 (rd a i)) := hc
          have hd' : wr.cell? (ad.add (i - 1)) = some (.int .i64 (rd a ((i - 1 : Nat) : Int))) := hd
          have HSI : Hid (rd a ((i - 1 : Nat) : Int) < rd a (i : Int) → ∀ j : Nat, 1 ≤ j → j < i + 1 → rd a ((j - 1 : Nat) : Int) < rd a (j : Int)) := Lib.hid (fun h j h1 h2 => by
            rcases Nat.lt_or_ge j i with h3 | h3
            · exact HS.out j h1 h3
            · have : j = i := by omega
              subst this; exact h)
          have hwi : IntKind.i64.wrap ((i : Int) - 1) = ((i - 1 : Nat) : Int) := i64w (by omega) (by omega) (by omega)
          have hi0 : (0 : Int) ≤ (i : Int) := Int.natCast_nonneg _
          have hi3 : (i : Int) < ((a.length : Nat) : Int) := by omega
          have hj0 : (0 : Int) ≤ ((i - 1 : Nat) : Int) := Int.natCast_nonneg _
          have hj3 : ((i - 1 : Nat) : Int) < ((a.length : Nat) : Int) := by omega
          have lad : ad.block < wr.heap.size := by
            have h := World.block_lt_of_cell? _ (ad.add i) hc'
            have e : (ad.add i).block = ad.block := by unfold Addr.add; split <;> rfl
            rwa [e] at h
          have HTr2 := Lib.hid (HTr.out.below (Below.refl _ _).drew)
          clear hc hd
          generalize rd a (i : Int) = p at *
          generalize rd a ((i - 1 : Nat) : Int) = q at *
          subst hAd
          by_cases hpq : p ≤ q
          · have e1 : decide (p ≤ q) = true := by simpa using hpq
            clear hpq HSI HS
            go_wp2_with fail
            go_region
            go_wp2_with fail
            refine (HKN.out _).mono ?_
            rintro e WK ⟨rfl, gk⟩
            have HBK := Lib.hid (HTr2.out.bel.trans (gk.mono HTr2.out.bel.size))
            clear gk
            go_wp2_with fail
            all_goals (try rw [Exit.noGoto_ret])
            all_goals go_ret
            all_goals exact ⟨rfl, HBK.out⟩
          · have e1 : decide (p ≤ q) = false := by simpa using hpq
            have HS2 := Lib.hid (HSI.out (by omega))
            clear hpq HSI HS
            go_wp2_with fail
            go_region
            go_wp2_with fail
            go_roundw
            case measure => simp [intOf]; omega
            case rel => exact ⟨i + 1, by go_num, by omega, .inl (by omega), HTr2, HS2⟩
        · have HPa : Hid (a.Pairwise (fun a b => a < b)) := Lib.hid (pair_adj a (fun j h1 h2 => HS.out j h1 (by omega)))
          have hil : a.length ≤ i := by omega
          clear HS
          have HT7 := HTr
          go_wp2_with fail
          go_loopw [15] (fun vi wr => ∃ i : Nat, vi = .int .i64 i ∧ 1 ≤ i ∧ (i ≤ b.length ∨ i = 1) ∧ Hid (TB w wr (.slice rA rank.length rc) (.slice wA ways.length wc) x0 x1 y0 y1) ∧ Hid (∀ j : Nat, 1 ≤ j → j < i → rd b ((j - 1 : Nat) : Int) < rd b (j : Int))) (fun vi _ => b.length - (intOf vi).toNat)
          case atStart => exact ⟨1, rfl, by omega, .inr rfl, HT7, Lib.hid (fun j h1 h2 => by omega)⟩
          case round =>
            obtain ⟨i, rfl, hi1, hi2, HTr, HS⟩ := hrel
            have h60 : b.length ≤ 60 := HLEN.out.2
            by_cases hlt : i < b.length
            · obtain ⟨ad, hAd, hc⟩ := Kd.at_int (Kd.C_below HCB.out HTr.out.bel) (i : Int) (by omega) (by omega)
              obtain ⟨ad', hAd', hd⟩ := Kd.at_int (Kd.C_below HCB.out HTr.out.bel) ((i - 1 : Nat) : Int) (by omega) (by omega)
              rw [hAd] at hAd'
              obtain rfl := Option.some.inj hAd'
              have hc' : wr.cell? (ad.add i) = some (.int .i64 (rd b i)) := hc
              have hd' : wr.cell? (ad.add (i - 1)) = some (.int .i64 (rd b ((i - 1 : Nat) : Int))) := hd
              have HSI : Hid (rd b ((i - 1 : Nat) : Int) < rd b (i : Int) → ∀ j : Nat, 1 ≤ j → j < i + 1 → rd b ((j - 1 : Nat) : Int) < rd b (j : Int)) := Lib.hid (fun h j h1 h2 => by
                rcases Nat.lt_or_ge j i with h3 | h3
                · exact HS.out j h1 h3
                · have : j = i := by omega
                  subst this; exact h)
              have hwi : IntKind.i64.wrap ((i : Int) - 1) = ((i - 1 : Nat) : Int) := i64w (by omega) (by omega) (by omega)
              have hi0 : (0 : Int) ≤ (i : Int) := Int.natCast_nonneg _
              have hi3 : (i : Int) < ((b.length : Nat) : Int) := by omega
              have hj0 : (0 : Int) ≤ ((i - 1 : Nat) : Int) := Int.natCast_nonneg _
              have hj3 : ((i - 1 : Nat) : Int) < ((b.length : Nat) : Int) := by omega
              have lad : ad.block < wr.heap.size := by
                have h := World.block_lt_of_cell? _ (ad.add i) hc'
                have e : (ad.add i).block = ad.block := by unfold Addr.add; split <;> rfl
                rwa [e] at h
              have HTr2 := Lib.hid (HTr.out.below (Below.refl _ _).drew)
              clear hc hd
              generalize rd b (i : Int) = p at *
              generalize rd b ((i - 1 : Nat) : Int) = q at *
              subst hAd
              by_cases hpq : p ≤ q
              · have e1 : decide (p ≤ q) = true := by simpa using hpq
                clear hpq HSI HS
                go_wp2_with fail
                go_region
                go_wp2_with fail
                refine (HKN.out _).mono ?_
                rintro e WK ⟨rfl, gk⟩
                have HBK := Lib.hid (HTr2.out.bel.trans (gk.mono HTr2.out.bel.size))
                clear gk
                go_wp2_with fail
                all_goals (try rw [Exit.noGoto_ret])
                all_goals go_ret
                all_goals exact ⟨rfl, HBK.out⟩
              · have e1 : decide (p ≤ q) = false := by simpa using hpq
                have HS2 := Lib.hid (HSI.out (by omega))
                clear hpq HSI HS
                go_wp2_with fail
                go_region
                go_wp2_with fail
                go_roundw
                case measure => simp [intOf]; omega
                case rel => exact ⟨i + 1, by go_num, by omega, .inl (by omega), HTr2, HS2⟩
            · have HPb : Hid (b.Pairwise (fun a b => a < b)) := Lib.hid (pair_adj b (fun j h1 h2 => HS.out j h1 (by omega)))
              have hil : b.length ≤ i := by omega
              clear HS
              have HL := Lib.hid (HLO.out wr HTr.out.bel HPa.out HPb.out HLEN.out.1 HLEN.out.2)
              go_wp2_with fail
              refine HL.out.1.mono ?_
              rintro e W8 ⟨rfl, g⟩
              have HT8 := Lib.hid (HTr.out.below g)
              have HL8 := Lib.hid (HLO.out W8 HT8.out.bel HPa.out HPb.out HLEN.out.1 HLEN.out.2)
              clear g HL
              go_wp2_with fail
              refine HL8.out.2.1.mono ?_
              rintro e W9 ⟨rfl, g⟩
              have HT9 := Lib.hid (HT8.out.below g)
              have HL9 := Lib.hid (HLO.out W9 HT9.out.bel HPa.out HPb.out HLEN.out.1 HLEN.out.2)
              clear g HL8
              have HBB : Hid (∃ B, localP a b = B) := Lib.hid ⟨_, rfl⟩
              generalize localP a b = B at *
              have hBB : (B == B) = true := by simp
              go_wp2_with fail
              refine HL9.out.2.2.mono ?_
              rintro e W10 ⟨rfl, g⟩
              have HT10 := Lib.hid (HT9.out.below g)
              clear g HL9
              by_cases hla : 0 < a.length
              · have f1 : decide (0 < a.length) = true := by simpa using hla
                have f2 : decide ((a.length : Int) > 0) = true := by rw [decide_eq_true_eq]; omega
                rw [f1]
                clear hla
                go_wp2_with fail
                refine (HKN.out _).mono ?_
                rintro e WK ⟨rfl, gk⟩
                have HBK := Lib.hid (HT10.out.bel.trans (gk.mono HT10.out.bel.size))
                clear gk
                go_wp2_with fail
                all_goals (try rw [Exit.noGoto_ret])
                all_goals go_ret
                all_goals exact ⟨rfl, HBK.out⟩
              · have f1 : decide (0 < a.length) = false := by simpa using hla
                have f2 : decide ((a.length : Int) > 0) = false := by rw [decide_eq_false_iff_not]; omega
                rw [f1]
                clear hla
                go_wp2_with fail
                refine (HKN.out _).mono ?_
                rintro e WK ⟨rfl, gk⟩
                have HBK := Lib.hid (HT10.out.bel.trans (gk.mono HT10.out.bel.size))
                clear gk
                go_wp2_with fail
                all_goals (try rw [Exit.noGoto_ret])
                all_goals go_ret
                all_goals exact ⟨rfl, HBK.out⟩
      -- END1
    | false =>
      go_wp2_with fail
      refine (HB3.out W4 HG4.out).mono ?_
      rintro e W6 ⟨rfl, g⟩
      have HT6 := Lib.hid (HT4.out.below g)
      clear c0 c1 d0 d1 k0 k1 l0 l1 l2 g HB1 HB2 HB3 HNN HTAIL HG4
      -- TAIL2
      go_wp2_with fail
      go_loopw [14] (fun vi wr => ∃ i : Nat, vi = .int .i64 i ∧ 1 ≤ i ∧ (i ≤ a.length ∨ i = 1) ∧ Hid (TB w wr (.slice rA rank.length rc) (.slice wA ways.length wc) x0 x1 y0 y1) ∧ Hid (∀ j : Nat, 1 ≤ j → j < i → rd a ((j - 1 : Nat) : Int) < rd a (j : Int))) (fun vi _ => a.length - (intOf vi).toNat)
      case atStart => exact ⟨1, rfl, by omega, .inr rfl, HT6, Lib.hid (fun j h1 h2 => by omega)⟩
      case round =>
        obtain ⟨i, rfl, hi1, hi2, HTr, HS⟩ := hrel
        have h60 : a.length ≤ 60 := HLEN.out.1
        by_cases hlt : i < a.length
        · obtain ⟨ad, hAd, hc⟩ := Kd.at_int (Kd.C_below HCA.out HTr.out.bel) (i : Int) (by omega) (by omega)
          obtain ⟨ad', hAd', hd⟩ := Kd.at_int (Kd.C_below HCA.out HTr.out.bel) ((i - 1 : Nat) : Int) (by omega) (by omega)
          rw [hAd] at hAd'
          obtain rfl := Option.some.inj hAd'
          have hc' : wr.cell? (ad.add i) = some (.int .i64 (rd a i)) := hc
          have hd' : wr.cell? (ad.add (i - 1)) = some (.int .i64 (rd a ((i - 1 : Nat) : Int))) := hd
          have HSI : Hid (rd a ((i - 1 : Nat) : Int) < rd a (i : Int) → ∀ j : Nat, 1 ≤ j → j < i + 1 → rd a ((j - 1 : Nat) : Int) < rd a (j : Int)) := Lib.hid (fun h j h1 h2 => by
            rcases Nat.lt_or_ge j i with h3 | h3
            · exact HS.out j h1 h3
            · have : j = i := by omega
              subst this; exact h)
          have hwi : IntKind.i64.wrap ((i : Int) - 1) = ((i - 1 : Nat) : Int) := i64w (by omega) (by omega) (by omega)
          have hi0 : (0 : Int) ≤ (i : Int) := Int.natCast_nonneg _
          have hi3 : (i : Int) < ((a.length : Nat) : Int) := by omega
          have hj0 : (0 : Int) ≤ ((i - 1 : Nat) : Int) := Int.natCast_nonneg _
          have hj3 : ((i - 1 : Nat) : Int) < ((a.length : Nat) : Int) := by omega
          have lad : ad.block < wr.heap.size := by
            have h := World.block_lt_of_cell? _ (ad.add i) hc'
            have e : (ad.add i).block = ad.block := by unfold Addr.add; split <;> rfl
            rwa [e] at h
          have HTr2 := Lib.hid (HTr.out.below (Below.refl _ _).drew)
          clear hc hd
          generalize rd a (i : Int) = p at *
          generalize rd a ((i - 1 : Nat) : Int) = q at *
          subst hAd
          by_cases hpq : p ≤ q
          · have e1 : decide (p ≤ q) = true := by simpa using hpq
            clear hpq HSI HS
            go_wp2_with fail
            go_region
            go_wp2_with fail
            refine (HKN.out _).mono ?_
            rintro e WK ⟨rfl, gk⟩
            have HBK := Lib.hid (HTr2.out.bel.trans (gk.mono HTr2.out.bel.size))
            clear gk
            go_wp2_with fail
            all_goals (try rw [Exit.noGoto_ret])
            all_goals go_ret
            all_goals exact ⟨rfl, HBK.out⟩
          · have e1 : decide (p ≤ q) = false := by simpa using hpq
            have HS2 := Lib.hid (HSI.out (by omega))
            clear hpq HSI HS
            go_wp2_with fail
            go_region
            go_wp2_with fail
            go_roundw
            case measure => simp [intOf]; omega
            case rel => exact ⟨i + 1, by go_num, by omega, .inl (by omega), HTr2, HS2⟩
        · have HPa : Hid (a.Pairwise (fun a b => a < b)) := Lib.hid (pair_adj a (fun j h1 h2 => HS.out j h1 (by omega)))
          have hil : a.length ≤ i := by omega
          clear HS
          have HT7 := HTr
          go_wp2_with fail
          go_loopw [15] (fun vi wr => ∃ i : Nat, vi = .int .i64 i ∧ 1 ≤ i ∧ (i ≤ b.length ∨ i = 1) ∧ Hid (TB w wr (.slice rA rank.length rc) (.slice wA ways.length wc) x0 x1 y0 y1) ∧ Hid (∀ j : Nat, 1 ≤ j → j < i → rd b ((j - 1 : Nat) : Int) < rd b (j : Int))) (fun vi _ => b.length - (intOf vi).toNat)
          case atStart => exact ⟨1, rfl, by omega, .inr rfl, HT7, Lib.hid (fun j h1 h2 => by omega)⟩
          case round =>
            obtain ⟨i, rfl, hi1, hi2, HTr, HS⟩ := hrel
            have h60 : b.length ≤ 60 := HLEN.out.2
            by_cases hlt : i < b.length
            · obtain ⟨ad, hAd, hc⟩ := Kd.at_int (Kd.C_below HCB.out HTr.out.bel) (i : Int) (by omega) (by omega)
              obtain ⟨ad', hAd', hd⟩ := Kd.at_int (Kd.C_below HCB.out HTr.out.bel) ((i - 1 : Nat) : Int) (by omega) (by omega)
              rw [hAd] at hAd'
              obtain rfl := Option.some.inj hAd'
              have hc' : wr.cell? (ad.add i) = some (.int .i64 (rd b i)) := hc
              have hd' : wr.cell? (ad.add (i - 1)) = some (.int .i64 (rd b ((i - 1 : Nat) : Int))) := hd
              have HSI : Hid (rd b ((i - 1 : Nat) : Int) < rd b (i : Int) → ∀ j : Nat, 1 ≤ j → j < i + 1 → rd b ((j - 1 : Nat) : Int) < rd b (j : Int)) := Lib.hid (fun h j h1 h2 => by
                rcases Nat.lt_or_ge j i with h3 | h3
                · exact HS.out j h1 h3
                · have : j = i := by omega
                  subst this; exact h)
              have hwi : IntKind.i64.wrap ((i : Int) - 1) = ((i - 1 : Nat) : Int) := i64w (by omega) (by omega) (by omega)
              have hi0 : (0 : Int) ≤ (i : Int) := Int.natCast_nonneg _
              have hi3 : (i : Int) < ((b.length : Nat) : Int) := by omega
              have hj0 : (0 : Int) ≤ ((i - 1 : Nat) : Int) := Int.natCast_nonneg _
              have hj3 : ((i - 1 : Nat) : Int) < ((b.length : Nat) : Int) := by omega
              have lad : ad.block < wr.heap.size := by
                have h := World.block_lt_of_cell? _ (ad.add i) hc'
                have e : (ad.add i).block = ad.block := by unfold Addr.add; split <;> rfl
                rwa [e] at h
              have HTr2 := Lib.hid (HTr.out.below (Below.refl _ _).drew)
              clear hc hd
              generalize rd b (i : Int) = p at *
              generalize rd b ((i - 1 : Nat) : Int) = q at *
              subst hAd
              by_cases hpq : p ≤ q
              · have e1 : decide (p ≤ q) = true := by simpa using hpq
                clear hpq HSI HS
                go_wp2_with fail
                go_region
                go_wp2_with fail
                refine (HKN.out _).mono ?_
                rintro e WK ⟨rfl, gk⟩
                have HBK := Lib.hid (HTr2.out.bel.trans (gk.mono HTr2.out.bel.size))
                clear gk
                go_wp2_with fail
                all_goals (try rw [Exit.noGoto_ret])
                all_goals go_ret
                all_goals exact ⟨rfl, HBK.out⟩
              · have e1 : decide (p ≤ q) = false := by simpa using hpq
                have HS2 := Lib.hid (HSI.out (by omega))
                clear hpq HSI HS
                go_wp2_with fail
                go_region
                go_wp2_with fail
                go_roundw
                case measure => simp [intOf]; omega
                case rel => exact ⟨i + 1, by go_num, by omega, .inl (by omega), HTr2, HS2⟩
            · have HPb : Hid (b.Pairwise (fun a b => a < b)) := Lib.hid (pair_adj b (fun j h1 h2 => HS.out j h1 (by omega)))
              have hil : b.length ≤ i := by omega
              clear HS
              have HL := Lib.hid (HLO.out wr HTr.out.bel HPa.out HPb.out HLEN.out.1 HLEN.out.2)
              go_wp2_with fail
              refine HL.out.1.mono ?_
              rintro e W8 ⟨rfl, g⟩
              have HT8 := Lib.hid (HTr.out.below g)
              have HL8 := Lib.hid (HLO.out W8 HT8.out.bel HPa.out HPb.out HLEN.out.1 HLEN.out.2)
              clear g HL
              go_wp2_with fail
              refine HL8.out.2.1.mono ?_
              rintro e W9 ⟨rfl, g⟩
              have HT9 := Lib.hid (HT8.out.below g)
              have HL9 := Lib.hid (HLO.out W9 HT9.out.bel HPa.out HPb.out HLEN.out.1 HLEN.out.2)
              clear g HL8
              have HBB : Hid (∃ B, localP a b = B) := Lib.hid ⟨_, rfl⟩
              generalize localP a b = B at *
              have hBB : (B == B) = true := by simp
              go_wp2_with fail
              refine HL9.out.2.2.mono ?_
              rintro e W10 ⟨rfl, g⟩
              have HT10 := Lib.hid (HT9.out.below g)
              clear g HL9
              by_cases hla : 0 < a.length
              · have f1 : decide (0 < a.length) = true := by simpa using hla
                have f2 : decide ((a.length : Int) > 0) = true := by rw [decide_eq_true_eq]; omega
                rw [f1]
                clear hla
                go_wp2_with fail
                refine (HKN.out _).mono ?_
                rintro e WK ⟨rfl, gk⟩
                have HBK := Lib.hid (HT10.out.bel.trans (gk.mono HT10.out.bel.size))
                clear gk
                go_wp2_with fail
                all_goals (try rw [Exit.noGoto_ret])
                all_goals go_ret
                all_goals exact ⟨rfl, HBK.out⟩
              · have f1 : decide (0 < a.length) = false := by simpa using hla
                have f2 : decide ((a.length : Int) > 0) = false := by rw [decide_eq_false_iff_not]; omega
                rw [f1]
                clear hla
                go_wp2_with fail
                refine (HKN.out _).mono ?_
                rintro e WK ⟨rfl, gk⟩
                have HBK := Lib.hid (HT10.out.bel.trans (gk.mono HT10.out.bel.size))
                clear gk
                go_wp2_with fail
                all_goals (try rw [Exit.noGoto_ret])
                all_goals go_ret
                all_goals exact ⟨rfl, HBK.out⟩
      -- END2
end Go.Proofs.Ytfkejflmhidnaaa.PAll
