import Derived.Test.YtfkejflmhidnaaaGreatQZKwA
import Derived.Test.YtfkejflmhidnaaaGreatQArA
import Derived.Test.YtfkejflmhidnaaaGreatQAlA
set_option linter.all false
namespace Go.Proofs.YtfkejflmhidnaaaGreat.PAll
open RowKit YtfkejflmhidnaaaGreatW.PrintWords YtfkejflmhidnaaaGreatW.PrintLast YtfkejflmhidnaaaGreatW.PrintMore
open Hp hiding Good
def NewPostT (n : Nat) (A : List S85) (W : World) (e : Ending) (w' : World) : Prop := ∃ (xb : Nat) (h : HierP), e = .returned (.pointer (some ⟨xb, 0, none⟩)) ∧ HierRep w' xb n h ∧ MH n (EA A) h ∧ GrOk n h ∧ Below W.heap.size W w'
def OfPost9T (n : Nat) (A : List S85) (W : World) (e : Ending) (w' : World) : Prop := ∃ S1 S2 : Value, e = .returned (.agg #[S1, S2]) ∧ Below W.heap.size W w' ∧ Calls Tryz.prog 12 #[.agg #[S1, S2]] w' (NewPostT n A w')
theorem of9_newT (W : World) (n : Nat) (A : List S85) (Aa : Option Addr) (ca : Nat) (hC : Kd.C k85 W Aa A.length A) (hca : A.length ≤ ca) (hok : MapOk n A) :
    Calls Tryz.prog 13 #[.agg #[.int .i64 n, .slice Aa A.length ca]] W (OfPost9T n A W) := by
  refine (of9_walk W n A Aa ca hC hca hok).mono ?_
  rintro e W4 ⟨vr, vw, t, rk, H, rfl, hBI, hRr, hRw, g4⟩
  obtain ⟨rA, rc, hvr, hrc, hrC⟩ := Kd.R_reads hRr
  obtain ⟨wA, wc, hvw, hwc', hwC⟩ := Kd.R_reads hRw
  subst hvr hvw
  have hrl : rk.length = n := hBI.rl
  rw [hrl] at hrC hrc ⊢
  refine ⟨_, _, rfl, g4, (hnew_walk W4 n rk H (hBI.vh hok.n1) rA wA rc wc hrC hwC).mono ?_⟩
  rintro e W5 ⟨xb, x, rfl, hHR, hX, g5⟩
  exact ⟨xb, _, rfl, hHR, hBI.mh hok.n1 x, grok_new (hBI.vh hok.n1) x hX, g5⟩
theorem far_all {n : Nat} {A : List S85} {h : HierP} (X : Exact n (EA A) h) (hok : HOk n 1125899906842624 h) (hn : n ≤ 900) {s u : Nat} (hs : s < n) (hu : u < n) {row : List Int} (hr : AllRow n A s row) : farP n h s u = rd row (u : Int) := by
  have h1 := far_bound hok hn s u
  by_cases h0 : 0 ≤ farP n h s u
  · have w1 := X.real s u hs hu h0
    have l1 := hr.least w1
    have w2 := hr.snd u hu l1.1
    have l2 := X.least s u hs hu _ w2
    omega
  · by_cases h2 : 0 ≤ rd row (u : Int)
    · have := (X.least s u hs hu _ (hr.snd u hu h2)).1
      omega
    · have := hr.low u hu
      omega
theorem asc_extZ : ∀ a b : List Int, a.Pairwise (fun p q => p < q) → b.Pairwise (fun p q => p < q) → (∀ x, x ∈ a ↔ x ∈ b) → a = b
  | [], [], _, _, _ => rfl
  | [], y :: b, _, _, h => by have := (h y).2 (by simp); simp at this
  | x :: a, [], _, _, h => by have := (h x).1 (by simp); simp at this
  | x :: a, y :: b, ha, hb, h => by
    rw [List.pairwise_cons] at ha hb
    have e : x = y := by
      rcases List.mem_cons.1 ((h x).1 (by simp)) with e | h1
      · exact e
      · rcases List.mem_cons.1 ((h y).2 (by simp)) with e | h2
        · exact e.symm
        · have := hb.1 _ h1; have := ha.1 _ h2; omega
    subst e
    rw [asc_extZ a b ha.2 hb.2 (fun z => ⟨fun hz => by
      rcases List.mem_cons.1 ((h z).1 (by simp [hz])) with e | h1
      · have := ha.1 _ hz; omega
      · exact h1, fun hz => by
      rcases List.mem_cons.1 ((h z).2 (by simp [hz])) with e | h1
      · have := hb.1 _ hz; omega
      · exact h1⟩)]
theorem lowAt_nat {n c : Nat} (hc : c ≤ n) : lowAt n (c : Int) = (n : Int) - c := by
  unfold lowAt clipP mx mn
  (repeat' split) <;> omega
theorem clip_nat {n c : Nat} (hc : c ≤ n) : (clipP n (c : Int)).toNat = c := by
  unfold clipP mx mn
  (repeat' split) <;> omega
theorem great_all {n : Nat} {h : HierP} (G : GrOk n h) : greatP n h (n : Int) = (List.range n).map (fun i : Nat => (i : Int)) := by
  refine asc_extZ _ _ (G.asc _) ?_ (fun z => ?_)
  · rw [List.pairwise_map]
    exact List.pairwise_lt_range.imp (fun h => by omega)
  · rw [G.mem]
    constructor
    · rintro ⟨u, hu, rfl, _⟩
      exact List.mem_map.2 ⟨u, List.mem_range.2 hu, rfl⟩
    · intro hz
      obtain ⟨u, hu, rfl⟩ := List.mem_map.1 hz
      have hu := List.mem_range.1 hu
      have := G.rin u hu
      exact ⟨u, hu, rfl, by rw [lowAt_nat (Nat.le_refl n)]; omega⟩
theorem prune_one (n : Nat) (h : HierP) (back : Bool) (x : S37) : pruneP n h back [x] = [x] := by
  have e : beatsP n h back x x = false := by unfold beatsP; simp
  unfold pruneP
  simp [e]
theorem out_top {n v : Nat} {h : HierP} {low : Int} (back : Bool) (hv : v < n) (ht : low ≤ rd h.rank (v : Int)) : outP n h v low back = [⟨(v : Int), 0⟩] := by
  unfold outP
  rw [high_top back hv ht, prune_one]
theorem sub_top {n v : Nat} {h : HierP} {k : Int} (back : Bool) (hv : v < n) (ht : lowAt n k ≤ rd h.rank (v : Int)) : subQ n h v k back = [] := by
  unfold subQ
  rw [low_top back hv ht]
  rfl
theorem rdL5_map {f : Nat → List Int} {n s : Nat} (hs : s < n) : rd_L5 ((List.range n).map f) (s : Int) = f s := by simp [rd_L5, List.getD, hs]
theorem rdL7_map {f : Nat → List S37} {n s : Nat} (hs : s < n) : rd_L7 ((List.range n).map f) (s : Int) = f s := by simp [rd_L7, List.getD, hs]
theorem lit37q (W : World) (q : Nat) (x y : Int) (hb : W.heap[q]? = some (.cells #[.int .i64 x, .int .i64 y] 37 (0, 0))) : Kd.C k37 W (some ⟨q, 0, none⟩) [(⟨x, y⟩ : S37)].length [(⟨x, y⟩ : S37)] := by
  have hown : W.ownsRow 0 37 2 (.slice (some ⟨q, 0, none⟩) 1 1) 1 [.int .i64 x, .int .i64 y] := ⟨rfl, .inr ⟨q, 1, _, rfl, by omega, hb, Nat.le_refl _, by decide, rfl, rfl⟩⟩
  have h1 : Kd.R k37 37 W 0 (fun _ => True) (.slice (some ⟨q, 0, none⟩) 1 1) [(⟨x, y⟩ : S37)] := by
    refine ⟨fun _ _ => trivial, _, hown, rfl, fun j p hj => ?_⟩
    rcases j with _ | j
    · obtain rfl : _ = p := Option.some.inj hj
      exact k37_mkM _ _ _ _
    · simp at hj
  exact (Kd.R_reads' h1).2.2
theorem same_one (w0 : World) (A : Option Addr) (c : Nat) (hc : 1 ≤ c) (x y : Int) (hA : ∀ W, Below w0.heap.size w0 W → Kd.C k37 W A [(⟨x, y⟩ : S37)].length [⟨x, y⟩]) (W : World) (q : Nat) (g : Below w0.heap.size w0 W) (hb : W.heap[q]? = some (.cells #[.int .i64 x, .int .i64 y] 37 (0, 0))) :
    Calls Tryz.prog 21 #[.slice A 1 c, .slice (some ⟨q, 0, none⟩) 1 1] W fun r w' => r = .returned (.bool true) ∧ Below w0.heap.size w0 w' := by
  refine (samePairs_walk W A (some ⟨q, 0, none⟩) c 1 [⟨x, y⟩] [⟨x, y⟩] (hA W g) hc (lit37q W q x y hb) (by simp) (by simp)).mono ?_
  rintro e w' ⟨b, rfl, hb7, hD⟩
  obtain rfl : b = true := hb7.2 rfl
  obtain ⟨⟨j, rfl⟩⟩ := hD
  exact ⟨rfl, pw_below_drewN g j⟩
structure AllT (n : Nat) (h : HierP) (T : TabP) : Prop where
  lg : T.g.length = n
  lf : T.far.length = n
  lo : T.out.length = n
  li : T.inn.length = n
  ls : T.so.length = n
  lt : T.si.length = n
  row : ∀ s : Nat, s < n → (rd_L5 T.far (s : Int)).length = n
  far : ∀ s u : Nat, s < n → u < n → rd (rd_L5 T.far (s : Int)) (u : Int) = farP n h s u
  out : ∀ s : Nat, s < n → rd_L7 T.out (s : Int) = [⟨(s : Int), 0⟩]
  inn : ∀ s : Nat, s < n → rd_L7 T.inn (s : Int) = [⟨(s : Int), 0⟩]
  so : ∀ s : Nat, s < n → rd_L5 T.so (s : Int) = []
theorem all_build {n : Nat} {h : HierP} (G : GrOk n h) : AllT n h (buildT n h (n : Int)) := by
  have hrow : ∀ s : Nat, s < n → rd_L5 (buildT n h (n : Int)).far (s : Int) = (List.range n).map (fun u : Nat => farP n h s u) := fun s hs => by
    show rd_L5 (tableP n h (greatP n h (n : Int)) (greatP n h (n : Int))) (s : Int) = _
    rw [great_all G]
    unfold tableP
    rw [List.map_map, rdL5_map hs]
    simp [List.map_map]
  have hlow : ∀ v : Nat, v < n → lowAt n (n : Int) ≤ rd h.rank (v : Int) := fun v hv => by
    have := G.rin v hv
    rw [lowAt_nat (Nat.le_refl n)]; omega
  refine ⟨?_, ?_, by simp [buildT], by simp [buildT], by simp [buildT], by simp [buildT], fun s hs => ?_, fun s u hs hu => ?_, fun s hs => ?_, fun s hs => ?_, fun s hs => ?_⟩
  · show (greatP n h (n : Int)).length = n
    rw [great_all G]; simp
  · show (tableP n h (greatP n h (n : Int)) (greatP n h (n : Int))).length = n
    rw [great_all G]; simp [tableP]
  · rw [hrow s hs]; simp
  · rw [hrow s hs, rd_get (by simpa using hu)]; simp
  · show rd_L7 ((List.range n).map (fun v => outP n h v (lowAt n (n : Int)) false)) (s : Int) = _
    rw [rdL7_map hs]; exact out_top false hs (hlow s hs)
  · show rd_L7 ((List.range n).map (fun v => outP n h v (lowAt n (n : Int)) true)) (s : Int) = _
    rw [rdL7_map hs]; exact out_top true hs (hlow s hs)
  · show rd_L5 ((List.range n).map (fun v => subQ n h v (n : Int) false)) (s : Int) = _
    rw [rdL5_map hs]; exact sub_top false hs (hlow s hs)
theorem none_build {n : Nat} {h : HierP} : (buildT n h 0).g.length = 0 ∧ (buildT n h 0).far.length = 0 ∧ (buildT n h 0).si.length = n := by
  have h0 : (greatP n h 0).length = 0 := by rw [greatP_len, show (0 : Int) = ((0 : Nat) : Int) from rfl, clip_nat (Nat.zero_le n)]
  refine ⟨h0, ?_, by simp [buildT]⟩
  show (tableP n h (greatP n h 0) (greatP n h 0)).length = 0
  unfold tableP
  rw [List.length_map]; exact h0
set_option maxRecDepth 100000 in
set_option maxHeartbeats 8000000 in
theorem tall_walk (w : World) (a0 : Int) (A1 : Option Addr) (c1 : Nat) (l1 : List S85) (hr1 : Kd.C k85 w A1 l1.length l1) (hc1 : l1.length ≤ c1) :
    Calls Tryz.prog 4 #[.int .i64 a0, .slice A1 l1.length c1] w fun r w' => r = .returned (.bool true) ∧ Below w.heap.size w w' := by
  obtain ⟨n, A, hok, hof⟩ := of7_walk w a0 A1 c1 l1 hr1 hc1
  have HOF := Lib.hid hof
  have HOK := Lib.hid hok
  have hn0 := hok.n0
  have hn1 := hok.n1
  have HKN : Hid (∀ W, Calls Tryz.prog 22 #[] W fun r w' => r = .returned (.bool true) ∧ Below W.heap.size W w') := Lib.hid (fun W => known15_walk W)
  clear hof hok hr1 hc1
  go_enter Tryz.func4, Tryz.ntmps4
  go_upto_region 2 with (first | (go_at_call 11; refine HOF.out.mono ?_; rintro e W2 ⟨Aa, ca, rfl, hca, hCA, g2⟩; have HCA := Lib.hid (And.intro hca hCA); have HG2 := Lib.hid g2; clear hca hCA g2))
  have HM3 := Lib.hid (blk_new W2 (.cells #[.int .i64 n, .slice Aa A.length ca] 24))
  have HG3 : Hid (Below w.heap.size w (W2.alloc (.cells #[.int .i64 n, .slice Aa A.length ca] 24))) := Lib.hid (HG2.out.alloc HG2.out.size _)
  have HCA3 : Hid (A.length ≤ ca ∧ Kd.C k85 (W2.alloc (.cells #[.int .i64 n, .slice Aa A.length ca] 24)) Aa A.length A) := Lib.hid ⟨HCA.out.1, Kd.C_alloc HCA.out.2 _⟩
  clear HCA HG2
  generalize W2.alloc (.cells #[.int .i64 n, .slice Aa A.length ca] 24) = W3 at *
  generalize W2.heap.size = gm at *
  have m0 := (blk_cell HM3.out 0).trans rfl
  have m1 := (blk_cell HM3.out 1).trans rfl
  have ml := blk_lt HM3.out
  have HO9 := Lib.hid (of9_newT W3 n A Aa ca HCA3.out.2 HCA3.out.1 HOK.out)
  go_upto_region 3 with (first | (go_at_call 13; refine HO9.out.mono ?_; rintro e W4 ⟨S1, S2, rfl, g4, hnew⟩; have HNW := Lib.hid hnew; have HG4 := Lib.hid g4; clear hnew g4) | (go_at_call 12; refine HNW.out.mono ?_; rintro e W5 ⟨xb, h, rfl, hHR, hMH, hGR, g5⟩; have HHR := Lib.hid hHR; have HMH := Lib.hid hMH; have HGR := Lib.hid hGR; have HG5 := Lib.hid g5; clear hHR hMH hGR g5))
  have HB5 := Lib.hid (HG3.out.trans ((HG4.out.trans (HG5.out.mono HG4.out.size)).mono HG3.out.size))
  have hm5 : W5.heap[gm]? = some (.cells #[.int .i64 n, .slice Aa A.length ca] 24 (0, 0)) := (HG5.out.block _ (blk_lt ((HG4.out.block _ (blk_lt HM3.out)).trans HM3.out))).trans ((HG4.out.block _ (blk_lt HM3.out)).trans HM3.out)
  have HM5 := Lib.hid hm5
  have hokh := HMH.out.ok
  have HA7 : Hid (∀ W, Below W5.heap.size W5 W → Calls Tryz.prog 16 #[.agg #[.int .i64 n, .slice Aa A.length ca]] W fun r w' => AllPost W n A r w') := Lib.hid (fun W g => all7_walk W n A Aa ca (Kd.C_below (Kd.C_below (Kd.C_below HCA3.out.2 HG4.out) HG5.out) g) HCA3.out.1 HOK.out)
  have HBA : Hid (∀ W, Below W5.heap.size W5 W → ∀ k : Int, Calls Tryz.prog 20 #[.pointer (some ⟨xb, 0, none⟩), .int .i64 k] W fun r w' => TBPost (buildT n h k) W r w') := Lib.hid (fun W g k => build_walkC W xb n h _ (HHR.out.below g) hokh k)
  have HAT := Lib.hid (all_build HGR.out)
  have HBN := Lib.hid (HBA.out W5 (Below.refl _ _) (n : Int))
  have HB0 := Lib.hid (fun W (g : Below W5.heap.size W5 W) => HBA.out W g 0)
  have HNO := Lib.hid (none_build (n := n) (h := h))
  have HFA : Hid (∀ (s u : Nat) (row : List Int), s < n → u < n → AllRow n A s row → farP n h s u = rd row (u : Int)) := Lib.hid (fun s u row hs hu hr => far_all HMH.out.ex hokh (by omega) hs hu hr)
  clear hm5 m0 m1 ml HM3 HG3 HCA3 HG4 HG5 HHR HNW HO9 HOF hokh HMH HGR HBA
  generalize buildT n h (n : Int) = T at *
  generalize buildT n h 0 = T0 at *
  have m0 : W5.cell? ⟨gm, 0, none⟩ = some (.int .i64 n) := (blk_cell HM5.out 0).trans rfl
  have ml := blk_lt HM5.out
  go_wp2_with fail
  refine HBN.out.mono ?_
  rintro e W6 ⟨B0, d0, B1, d1, B2, d2, B3, d3, B4, d4, B5, d5, rfl, hT, g6⟩
  have HTC := Lib.hid hT
  have HG6 := Lib.hid g6
  rw [HAT.out.lg, HAT.out.lf, HAT.out.lo, HAT.out.li, HAT.out.ls, HAT.out.lt]
  clear hT g6 m0 ml HBN
  have HX7 := Lib.hid (blk_new W6 (.cells #[.slice B0 n d0, .slice B1 n d1, .slice B2 n d2, .slice B3 n d3, .slice B4 n d4, .slice B5 n d5] 46))
  have HG67 : Hid (Below W6.heap.size W6 (W6.alloc (.cells #[.slice B0 n d0, .slice B1 n d1, .slice B2 n d2, .slice B3 n d3, .slice B4 n d4, .slice B5 n d5] 46))) := Lib.hid ((Below.refl _ _).alloc (Nat.le_refl _) _)
  have HG7 := Lib.hid (HG6.out.trans (HG67.out.mono HG6.out.size))
  have HT7 := Lib.hid (HTC.out.below HG67.out)
  go_upto_region 4 with fail
  generalize W6.alloc (.cells #[.slice B0 n d0, .slice B1 n d1, .slice B2 n d2, .slice B3 n d3, .slice B4 n d4, .slice B5 n d5] 46) = W7 at *
  generalize W6.heap.size = tb at *
  have hm7 := (HG7.out.block _ (blk_lt HM5.out)).trans HM5.out
  have m0 := (blk_cell hm7 0).trans rfl
  have m1 := (blk_cell hm7 1).trans rfl
  have ml := blk_lt hm7
  clear hm7 HTC HG6 HG67
  have HA8 := Lib.hid (HA7.out W7 HG7.out)
  go_upto_region 5 with (first | (go_at_call 16; refine HA8.out.mono ?_; rintro e W8 ⟨va, out, rfl, hR, hol, hrows, g8⟩; obtain ⟨Oa, oc, hva, hoc, hOC⟩ := Kd.R_reads hR; subst hva; have HOC := Lib.hid hOC; have HOL := Lib.hid hol; have HRW := Lib.hid hrows; have HG78 := Lib.hid g8; clear hR hoc hOC hol hrows g8))
  rw [HOL.out] at HOC
  rw [HOL.out]
  have HG8 := Lib.hid (HG7.out.trans (HG78.out.mono HG7.out.size))
  have HX8 := Lib.hid ((HG78.out.block _ (blk_lt HX7.out)).trans HX7.out)
  have HT8 := Lib.hid (HT7.out.below HG78.out)
  have HM8 := Lib.hid ((HG8.out.block _ (blk_lt HM5.out)).trans HM5.out)
  clear m0 m1 ml HG7 HG78 HX7 HT7 HA7 HA8
  have HCF : Hid (∀ W, Below W8.heap.size W8 W → W.cell? ⟨gm, 0, none⟩ = some (.int .i64 n) ∧ W.cell? ⟨tb, 1, none⟩ = some (.slice B1 n d1) ∧ W.cell? ⟨tb, 2, none⟩ = some (.slice B2 n d2) ∧ W.cell? ⟨tb, 3, none⟩ = some (.slice B3 n d3) ∧ W.cell? ⟨tb, 4, none⟩ = some (.slice B4 n d4)) := Lib.hid (fun W g => by
    have hm := (g.block _ (blk_lt HM8.out)).trans HM8.out
    have ht := (g.block _ (blk_lt HX8.out)).trans HX8.out
    exact ⟨(blk_cell hm 0).trans rfl, (blk_cell ht 1).trans rfl, (blk_cell ht 2).trans rfl, (blk_cell ht 3).trans rfl, (blk_cell ht 4).trans rfl⟩)
  have HLT : Hid (∀ W, Below W8.heap.size W8 W → gm < W.heap.size ∧ tb < W.heap.size) := Lib.hid (fun W g => ⟨Nat.lt_of_lt_of_le (blk_lt HM8.out) g.size, Nat.lt_of_lt_of_le (blk_lt HX8.out) g.size⟩)
  have HTW : Hid (∀ W, Below W8.heap.size W8 W → TabC W ⟨B0, d0, B1, d1, B2, d2, B3, d3, B4, d4, B5, d5⟩ T) := Lib.hid (fun W g => HT8.out.below g)
  have HOW : Hid (∀ W, Below W8.heap.size W8 W → Kd.C (Kd.slice 3 (Kd.int .i64)) W Oa n out) := Lib.hid (fun W g => Kd.C_below HOC.out g)
  obtain ⟨c0, c1, c2, c3, c4⟩ := HCF.out W8 (Below.refl _ _)
  obtain ⟨gl, tl⟩ := HLT.out W8 (Below.refl _ _)
  have t0 : ((n : Int) != (n : Int)) = false := by simp
  go_wp2_with fail
  clear c0 c1 c2 c3 c4 gl tl t0
  go_loopw [9] (fun v9 wr => ∃ s : Nat, v9 = .int .i64 s ∧ s ≤ n ∧ Hid (Below W8.heap.size W8 wr)) (fun v9 _ => n - (intOf v9).toNat)
  case atStart => exact ⟨0, rfl, by omega, Lib.hid (Below.refl _ _)⟩
  case round =>
    obtain ⟨s, rfl, hs, HB⟩ := hrel
    by_cases hlt : s < n
    · have hs0 : (0 : Int) ≤ (s : Int) := Int.natCast_nonneg _
      have hs1 : (s : Int) < (n : Int) := by omega
      have HRF : Hid (∃ a1 a2 a3 a4 : Addr, B1 = some a1 ∧ B2 = some a2 ∧ B3 = some a3 ∧ B4 = some a4 ∧ ∃ (F S O I : Option Addr) (fc sc oc ic : Nat), 1 ≤ oc ∧ 1 ≤ ic ∧
          (∀ W, Below W8.heap.size W8 W → W.cell? (a1.add s) = some (.slice F n fc) ∧ W.cell? (a4.add s) = some (.slice S 0 sc) ∧ W.cell? (a2.add s) = some (.slice O 1 oc) ∧ W.cell? (a3.add s) = some (.slice I 1 ic)) ∧
          (∀ W, Below W8.heap.size W8 W → Kd.C (Kd.int .i64) W F n (rd_L5 T.far (s : Int)) ∧ Kd.C k37 W O [(⟨(s : Int), 0⟩ : S37)].length [⟨(s : Int), 0⟩] ∧ Kd.C k37 W I [(⟨(s : Int), 0⟩ : S37)].length [⟨(s : Int), 0⟩])) := Lib.hid (by
        have T8 := HT8.out
        obtain ⟨a1, F, fc, e1, h1, l1, r1⟩ := at_L5 T8.far (s : Int) (by omega) (by rw [HAT.out.lf]; omega)
        obtain ⟨a4, S, sc, e4, h4, l4, r4⟩ := at_L5 T8.so (s : Int) (by omega) (by rw [HAT.out.ls]; omega)
        obtain ⟨a2, O, oc, e2, h2, l2, r2⟩ := at_L7 T8.out (s : Int) (by omega) (by rw [HAT.out.lo]; omega)
        obtain ⟨a3, I, ic, e3, h3, l3, r3⟩ := at_L7 T8.inn (s : Int) (by omega) (by rw [HAT.out.li]; omega)
        rw [HAT.out.row s hlt] at h1 l1 r1
        rw [HAT.out.so s hlt] at h4 l4 r4
        rw [HAT.out.out s hlt] at h2 l2 r2
        rw [HAT.out.inn s hlt] at h3 l3 r3
        simp only [Int.toNat_natCast, List.length_cons, List.length_nil, Nat.zero_add] at h1 h2 h3 h4 l1 l2 l3 l4
        have key : ∀ (a : Addr) (v : Value), W8.cell? (a.add s) = some v → ∀ W, Below W8.heap.size W8 W → W.cell? (a.add s) = some v := fun a v e W g => (g.cell (World.block_lt_of_cell? W8 _ e)).trans e
        exact ⟨a1, a2, a3, a4, e1, e2, e3, e4, F, S, O, I, fc, sc, oc, ic, l2, l3, fun W g => ⟨key _ _ h1 W g, key _ _ h4 W g, key _ _ h2 W g, key _ _ h3 W g⟩, fun W g => ⟨Kd.C_below r1 g, Kd.C_below r2 g, Kd.C_below r3 g⟩⟩)
      obtain ⟨a1, a2, a3, a4, e1, e2, e3, e4, F, S, O, I, fc, sc, oc, ic, loc, lic, hrc, hrr⟩ := HRF.out
      subst e1 e2 e3 e4
      have HRC := Lib.hid hrc
      have HRR := Lib.hid hrr
      clear hrc hrr HRF
      obtain ⟨c0, c1, c2, c3, c4⟩ := HCF.out wr HB.out
      obtain ⟨r1, r4, r2, r3⟩ := HRC.out wr HB.out
      obtain ⟨gl, tl⟩ := HLT.out wr HB.out
      have HSO := Lib.hid (same_one W8 O oc loc (s : Int) 0 (fun W g => (HRR.out W g).2.1))
      have HSI := Lib.hid (same_one W8 I ic lic (s : Int) 0 (fun W g => (HRR.out W g).2.2))
      have HQ1 : Hid (((wr.alloc (.cells #[.int .i64 s, .int .i64 0] 37)).drew).heap[wr.drew.heap.size]? = some (.cells #[.int .i64 s, .int .i64 0] 37 (0, 0))) := Lib.hid (blk_new wr _)
      have HQ2 : Hid (Below W8.heap.size W8 (wr.alloc (.cells #[.int .i64 s, .int .i64 0] 37)).drew) := Lib.hid (HB.out.alloc HB.out.size _).drew
      have t0 : ((n : Int) != (n : Int)) = false := by simp
      have t1 : ((0 : Int) != 0) = false := by simp
      go_upto_region 10 with fail
      refine start_ (n := 42) (S := fun w' => w'.cell? ⟨gm, 0, none⟩ = some (.int .i64 n) ∧ w'.cell? ⟨tb, 1, none⟩ = some (.slice (some a1) n d1) ∧ w'.cell? ⟨tb, 2, none⟩ = some (.slice (some a2) n d2) ∧ w'.cell? ⟨tb, 3, none⟩ = some (.slice (some a3) n d3) ∧ w'.cell? ⟨tb, 4, none⟩ = some (.slice (some a4) n d4) ∧ w'.cell? (a1.add s) = some (.slice F n fc) ∧ w'.cell? (a4.add s) = some (.slice S 0 sc) ∧ w'.cell? (a2.add s) = some (.slice O 1 oc) ∧ w'.cell? (a3.add s) = some (.slice I 1 ic)) (ds := []) (bA_ 42 0) (by kernel_rfl) rfl rfl ⟨(HCF.out _ HB.out.drew).1, (HCF.out _ HB.out.drew).2.1, (HCF.out _ HB.out.drew).2.2.1, (HCF.out _ HB.out.drew).2.2.2.1, (HCF.out _ HB.out.drew).2.2.2.2, (HRC.out _ HB.out.drew).1, (HRC.out _ HB.out.drew).2.1, (HRC.out _ HB.out.drew).2.2.1, (HRC.out _ HB.out.drew).2.2.2⟩ (fun hHeld => ?_)
      refine p_ 0 60 _ (bA_ 42 1) rfl rfl (by kernel_rfl) (fun _ _ _ h => h) (by rfl) (by intro w'; go_simp; with_reducible rfl) _ (by simp only [zN_]; rfl) ?_
      refine p_ 2 62 _ (bA_ 42 5) rfl rfl (by kernel_rfl) (fun _ _ _ h => h) (by rfl) (by intro w'; go_simp; with_reducible rfl) _ (by simp only [zN_]; rfl) ?_
      refine p_ 6 66 _ (bA_ 42 69) rfl rfl (by kernel_rfl) (fun _ _ _ h => h) (by rfl) (by intro w'; go_simp; with_reducible rfl) _ (by simp only [zN_]; rfl) ?_
      refine t_ 1 61 ?_ (bA_ 42 71) rfl rfl (by kernel_rfl) (fun _ _ _ h => h) (by rfl) ?_ hHeld ?_ ?_ ?_
      rotate_left
      · rintro w' ⟨s0, s1, s2, s3, s4, s5, s6, s7, s8⟩
        go_simp
        with_reducible rfl
      rotate_left; · simp only [zN_]; rfl
      refine p_ 3 63 _ (bA_ 42 79) rfl rfl (by kernel_rfl) (fun _ _ _ h => h) (by rfl) (by intro w'; go_simp; with_reducible rfl) _ (by simp only [zN_]; rfl) ?_
      refine t_ 4 64 ?_ (bA_ 42 95) rfl rfl (by kernel_rfl) (fun _ _ _ h => h) (by rfl) ?_ hHeld ?_ ?_ ?_
      rotate_left
      · rintro w' ⟨s0, s1, s2, s3, s4, s5, s6, s7, s8⟩
        go_simp
        with_reducible rfl
      rotate_left; · simp only [zN_]; rfl
      refine p_ 5 65 _ (bA_ 42 127) rfl rfl (by kernel_rfl) (fun _ _ _ h => h) (by rfl) (by intro w'; go_simp; with_reducible rfl) _ (by simp only [zN_]; rfl) ?_
      refine t_ 7 67 ?_ (bA_ 42 255) rfl rfl (by kernel_rfl) (fun _ _ _ h => h) (by rfl) ?_ hHeld ?_ ?_ ?_
      rotate_left
      · rintro w' ⟨s0, s1, s2, s3, s4, s5, s6, s7, s8⟩
        go_simp
        with_reducible rfl
      rotate_left; · simp only [zN_]; rfl
      refine p_ 8 68 _ (bA_ 42 511) rfl rfl (by kernel_rfl) (fun _ _ _ h => h) (by rfl) (by intro w'; go_simp; with_reducible rfl) _ (by simp only [zN_]; rfl) ?_
      refine p_ 9 69 _ (bA_ 42 1023) rfl rfl (by kernel_rfl) (fun _ _ _ h => h) (by rfl) (by intro w'; go_simp; with_reducible rfl) _ (by simp only [zN_]; rfl) ?_
      refine p_ 10 70 _ (bA_ 42 2047) rfl rfl (by kernel_rfl) (fun _ _ _ h => h) (by rfl) (by intro w'; go_simp; with_reducible rfl) _ (by simp only [zN_]; rfl) ?_
      refine p_ 12 72 _ (bA_ 42 6143) rfl rfl (by kernel_rfl) (fun _ _ _ h => h) (by rfl) (by intro w'; go_simp; with_reducible rfl) _ (by simp only [zN_]; rfl) ?_
      refine t_ 11 71 ?_ (bA_ 42 8191) rfl rfl (by kernel_rfl) (fun _ _ _ h => h) (by rfl) ?_ hHeld ?_ ?_ ?_
      rotate_left
      · rintro w' ⟨s0, s1, s2, s3, s4, s5, s6, s7, s8⟩
        go_simp
        with_reducible rfl
      rotate_left; · simp only [zN_]; rfl
      refine p_ 13 73 _ (bA_ 42 16383) rfl rfl (by kernel_rfl) (fun _ _ _ h => h) (by rfl) (by intro w'; go_simp; with_reducible rfl) _ (by simp only [zN_]; rfl) ?_
      refine t_ 14 74 ?_ (bA_ 42 32767) rfl rfl (by kernel_rfl) (fun _ _ _ h => h) (by rfl) ?_ hHeld ?_ ?_ ?_
      rotate_left
      · rintro w' ⟨s0, s1, s2, s3, s4, s5, s6, s7, s8⟩
        go_simp
        with_reducible rfl
      rotate_left; · simp only [zN_]; rfl
      refine p_ 15 75 _ (bA_ 42 65535) rfl rfl (by kernel_rfl) (fun _ _ _ h => h) (by rfl) (by intro w'; go_simp; with_reducible rfl) _ (by simp only [zN_]; rfl) ?_
      refine p_ 16 76 _ (bA_ 42 131071) rfl rfl (by kernel_rfl) (fun _ _ _ h => h) (by rfl) (by intro w'; go_simp; with_reducible rfl) _ (by simp only [zN_]; rfl) ?_
      refine p_ 17 77 _ (bA_ 42 262143) rfl rfl (by kernel_rfl) (fun _ _ _ h => h) (by rfl) (by intro w'; go_simp; with_reducible rfl) _ (by simp only [zN_]; rfl) ?_
      refine p_ 18 78 _ (bA_ 42 524287) rfl rfl (by kernel_rfl) (fun _ _ _ h => h) (by rfl) (by intro w'; go_simp; with_reducible rfl) _ (by simp only [zN_]; rfl) ?_
      refine p_ 19 79 _ (bA_ 42 1048575) rfl rfl (by kernel_rfl) (fun _ _ _ h => h) (by rfl) (by intro w'; go_simp; with_reducible rfl) _ (by simp only [zN_]; rfl) ?_
      refine p_ 21 81 _ (bA_ 42 3145727) rfl rfl (by kernel_rfl) (fun _ _ _ h => h) (by rfl) (by intro w'; go_simp; with_reducible rfl) _ (by simp only [zN_]; rfl) ?_
      refine p_ 24 84 _ (bA_ 42 19922943) rfl rfl (by kernel_rfl) (fun _ _ _ h => h) (by rfl) (by intro w'; go_simp; with_reducible rfl) _ (by simp only [zN_]; rfl) ?_
      refine p_ 25 85 _ (bA_ 42 53477375) rfl rfl (by kernel_rfl) (fun _ _ _ h => h) (by rfl) (by intro w'; go_simp; with_reducible rfl) _ (by simp only [zN_]; rfl) ?_
      refine t_ 20 80 ?_ (bA_ 42 54525951) rfl rfl (by kernel_rfl) (fun _ _ _ h => h) (by rfl) ?_ hHeld ?_ ?_ ?_
      rotate_left
      · rintro w' ⟨s0, s1, s2, s3, s4, s5, s6, s7, s8⟩
        go_simp
        with_reducible rfl
      rotate_left; · simp only [zN_]; rfl
      refine p_ 22 82 _ (bA_ 42 58720255) rfl rfl (by kernel_rfl) (fun _ _ _ h => h) (by rfl) (by intro w'; go_simp; with_reducible rfl) _ (by simp only [zN_]; rfl) ?_
      refine t_ 23 83 ?_ (bA_ 42 67108863) rfl rfl (by kernel_rfl) (fun _ _ _ h => h) (by rfl) ?_ hHeld ?_ ?_ ?_
      rotate_left
      · rintro w' ⟨s0, s1, s2, s3, s4, s5, s6, s7, s8⟩
        go_simp
        with_reducible rfl
      rotate_left; · simp only [zN_]; rfl
      refine one_ (i := 26) (N := some 86) (bA_ 42 134217727) rfl rfl (by kernel_rfl) (by decide) (fun K hK => ?_)
      refine value_ (w1 := ?_) (v := ?_) (by rfl) rfl ?_ ?_
      rotate_left 2
      · go_simp
        constructor
        · rfl
        · rfl
      refine hK.out _ _ ⟨(HCF.out _ HQ2.out).1, (HCF.out _ HQ2.out).2.1, (HCF.out _ HQ2.out).2.2.1, (HCF.out _ HQ2.out).2.2.2.1, (HCF.out _ HQ2.out).2.2.2.2, (HRC.out _ HQ2.out).1, (HRC.out _ HQ2.out).2.1, (HRC.out _ HQ2.out).2.2.1, (HRC.out _ HQ2.out).2.2.2⟩ (fun hHeld => ?_)
      clear hK K
      refine norm_ (a' := ?_) ?_ ?_
      rotate_left
      · show Act.put _ (some 86) _ = _
        simp only [zN_]
        rfl
      refine one_ (i := 27) (N := some 87) (bA_ 42 268435455) rfl rfl (by kernel_rfl) (by decide) (fun K hK => ?_)
      refine goes_ Tryz.func21 (by kernel_rfl) rfl #[.slice O 1 oc, .slice (some ⟨wr.drew.heap.size, 0, none⟩) 1 1] (by rfl) rfl rfl (by simp only [List.map_toArray, List.map_cons, List.map_nil]; rfl) ?_
      with_reducible refine (HSO.out _ _ HQ2.out HQ1.out).mono ?_
      rintro e w3 ⟨rfl, g⟩
      refine ⟨_, rfl, ?_⟩
      have HG3 := Lib.hid g
      clear g
      refine hK.out _ _ ⟨(HCF.out _ HG3.out).1, (HCF.out _ HG3.out).2.1, (HCF.out _ HG3.out).2.2.1, (HCF.out _ HG3.out).2.2.2.1, (HCF.out _ HG3.out).2.2.2.2, (HRC.out _ HG3.out).1, (HRC.out _ HG3.out).2.1, (HRC.out _ HG3.out).2.2.1, (HRC.out _ HG3.out).2.2.2⟩ (fun hHeld => ?_)
      clear hK K
      refine norm_ (a' := ?_) ?_ ?_
      rotate_left
      · show Act.put _ (some 87) _ = _
        simp only [zN_]
        rfl
      refine p_ 28 88 _ (bA_ 42 536870911) rfl rfl (by kernel_rfl) (fun _ _ _ h => h) (by rfl) (by intro w'; go_simp; with_reducible rfl) _ (by simp only [zN_]; rfl) ?_
      refine p_ 29 89 _ (bA_ 42 1073741823) rfl rfl (by kernel_rfl) (fun _ _ _ h => h) (by rfl) (by intro w'; go_simp; with_reducible rfl) _ (by simp only [zN_]; rfl) ?_
      refine p_ 30 90 _ (bA_ 42 2147483647) rfl rfl (by kernel_rfl) (fun _ _ _ h => h) (by rfl) (by intro w'; go_simp; with_reducible rfl) _ (by simp only [zN_]; rfl) ?_
      refine p_ 31 91 _ (bA_ 42 4294967295) rfl rfl (by kernel_rfl) (fun _ _ _ h => h) (by rfl) (by intro w'; go_simp; with_reducible rfl) _ (by simp only [zN_]; rfl) ?_
      refine p_ 33 93 _ (bA_ 42 12884901887) rfl rfl (by kernel_rfl) (fun _ _ _ h => h) (by rfl) (by intro w'; go_simp; with_reducible rfl) _ (by simp only [zN_]; rfl) ?_
      refine p_ 36 96 _ (bA_ 42 81604378623) rfl rfl (by kernel_rfl) (fun _ _ _ h => h) (by rfl) (by intro w'; go_simp; with_reducible rfl) _ (by simp only [zN_]; rfl) ?_
      refine p_ 37 97 _ (bA_ 42 219043332095) rfl rfl (by kernel_rfl) (fun _ _ _ h => h) (by rfl) (by intro w'; go_simp; with_reducible rfl) _ (by simp only [zN_]; rfl) ?_
      refine t_ 32 92 ?_ (bA_ 42 223338299391) rfl rfl (by kernel_rfl) (fun _ _ _ h => h) (by rfl) ?_ hHeld ?_ ?_ ?_
      rotate_left
      · rintro w' ⟨s0, s1, s2, s3, s4, s5, s6, s7, s8⟩
        go_simp
        with_reducible rfl
      rotate_left; · simp only [zN_]; rfl
      refine p_ 34 94 _ (bA_ 42 240518168575) rfl rfl (by kernel_rfl) (fun _ _ _ h => h) (by rfl) (by intro w'; go_simp; with_reducible rfl) _ (by simp only [zN_]; rfl) ?_
      refine t_ 35 95 ?_ (bA_ 42 274877906943) rfl rfl (by kernel_rfl) (fun _ _ _ h => h) (by rfl) ?_ hHeld ?_ ?_ ?_
      rotate_left
      · rintro w' ⟨s0, s1, s2, s3, s4, s5, s6, s7, s8⟩
        go_simp
        with_reducible rfl
      rotate_left; · simp only [zN_]; rfl
      refine one_ (i := 38) (N := some 98) (bA_ 42 549755813887) rfl rfl (by kernel_rfl) (by decide) (fun K hK => ?_)
      refine value_ (w1 := ?_) (v := ?_) (by rfl) rfl ?_ ?_
      rotate_left 2
      · go_simp
        constructor
        · rfl
        · rfl
      refine hK.out _ _ ⟨(HCF.out _ (HG3.out.alloc HG3.out.size _)).1, (HCF.out _ (HG3.out.alloc HG3.out.size _)).2.1, (HCF.out _ (HG3.out.alloc HG3.out.size _)).2.2.1, (HCF.out _ (HG3.out.alloc HG3.out.size _)).2.2.2.1, (HCF.out _ (HG3.out.alloc HG3.out.size _)).2.2.2.2, (HRC.out _ (HG3.out.alloc HG3.out.size _)).1, (HRC.out _ (HG3.out.alloc HG3.out.size _)).2.1, (HRC.out _ (HG3.out.alloc HG3.out.size _)).2.2.1, (HRC.out _ (HG3.out.alloc HG3.out.size _)).2.2.2⟩ (fun hHeld => ?_)
      clear hK K
      refine norm_ (a' := ?_) ?_ ?_
      rotate_left
      · show Act.put _ (some 98) _ = _
        simp only [zN_]
        rfl
      refine one_ (i := 39) (N := some 99) (bA_ 42 1099511627775) rfl rfl (by kernel_rfl) (by decide) (fun K hK => ?_)
      refine goes_ Tryz.func21 (by kernel_rfl) rfl #[.slice I 1 ic, .slice (some ⟨w3.heap.size, 0, none⟩) 1 1] (by rfl) rfl rfl (by simp only [List.map_toArray, List.map_cons, List.map_nil]; rfl) ?_
      with_reducible refine (HSI.out _ _ (HG3.out.alloc HG3.out.size _) (blk_new w3 _)).mono ?_
      rintro e w4 ⟨rfl, g⟩
      refine ⟨_, rfl, ?_⟩
      have HG4 := Lib.hid g
      clear g
      refine hK.out _ _ ⟨(HCF.out _ HG4.out).1, (HCF.out _ HG4.out).2.1, (HCF.out _ HG4.out).2.2.1, (HCF.out _ HG4.out).2.2.2.1, (HCF.out _ HG4.out).2.2.2.2, (HRC.out _ HG4.out).1, (HRC.out _ HG4.out).2.1, (HRC.out _ HG4.out).2.2.1, (HRC.out _ HG4.out).2.2.2⟩ (fun hHeld => ?_)
      clear hK K
      refine norm_ (a' := ?_) ?_ ?_
      rotate_left
      · show Act.put _ (some 99) _ = _
        simp only [zN_]
        rfl
      refine p_ 40 100 _ (bA_ 42 2199023255551) rfl rfl (by kernel_rfl) (fun _ _ _ h => h) (by rfl) (by intro w'; go_simp; with_reducible rfl) _ (by simp only [zN_]; rfl) ?_
      refine p_ 41 101 _ (bA_ 42 4398046511103) rfl rfl (by kernel_rfl) (fun _ _ _ h => h) (by rfl) (by intro w'; go_simp; with_reducible rfl) _ (by simp only [zN_]; rfl) ?_
      refine done_ (by kernel_rfl) ?_
      have HB2 := HG4
      clear c0 c1 c2 c3 c4 r1 r2 r3 r4 gl tl t1 HG4
      go_wp2_with fail
      have HRAL := Lib.hid (HRW.out s hlt)
      go_loopw [10] (fun v10 wx => ∃ u : Nat, v10 = .int .i64 u ∧ u ≤ n ∧ Hid (Below W8.heap.size W8 wx)) (fun v10 _ => n - (intOf v10).toNat)
      case atStart => exact ⟨0, rfl, by omega, HB2⟩
      case round =>
        obtain ⟨u, rfl, hu, HBU⟩ := hrel
        clear HB2 HB
        by_cases hut : u < n
        · have hu0 : (0 : Int) ≤ (u : Int) := Int.natCast_nonneg _
          have hu1 : (u : Int) < (n : Int) := by omega
          obtain ⟨c0, c1, c2, c3, c4⟩ := HCF.out wr HBU.out
          obtain ⟨r1, r4, r2, r3⟩ := HRC.out wr HBU.out
          obtain ⟨gl, tl⟩ := HLT.out wr HBU.out
          obtain ⟨ao, Bv, bvc, hAo, ov, hovl, hCv⟩ := at_rowF (HOW.out wr HBU.out) s hlt
          rw [HRAL.out.len] at ov hovl hCv
          obtain ⟨bb, hBv, cv⟩ := Kd.at_int hCv (u : Int) (by omega) (by omega)
          have cv' : wr.cell? (bb.add u) = some (.int .i64 (rd (out.getD s []) u)) := cv
          obtain ⟨bf, hBf, cf⟩ := Kd.at_int (HRR.out wr HBU.out).1 (u : Int) (by omega) (by omega)
          have cf' : wr.cell? (bf.add u) = some (.int .i64 (rd (rd_L5 T.far (s : Int)) u)) := cf
          subst hAo hBv hBf
          rw [HAT.out.far s u hlt hut, HFA.out s u _ hlt hut HRAL.out] at cf'
          generalize rd (out.getD s []) (u : Int) = d at *
          have t1 : (d != d) = false := by simp
          clear cv cf hCv
          go_upto_region 15 with fail
          refine start_ (n := 16) (S := fun w' => w'.cell? ⟨tb, 1, none⟩ = some (.slice (some a1) n d1) ∧ w'.cell? (a1.add s) = some (.slice (some bf) n fc) ∧ w'.cell? (bf.add u) = some (.int .i64 d) ∧ w'.cell? (ao.add s) = some (.slice (some bb) n bvc) ∧ w'.cell? (bb.add u) = some (.int .i64 d)) (ds := []) (bA_ 16 0) (by kernel_rfl) rfl rfl ⟨c1, r1, cf', ov, cv'⟩ (fun hHeld => ?_)
          refine p_ 0 108 _ (bA_ 16 1) rfl rfl (by kernel_rfl) (fun _ _ _ h => h) (by rfl) (by intro w'; go_simp; with_reducible rfl) _ (by simp only [zN_]; rfl) ?_
          refine p_ 2 110 _ (bA_ 16 5) rfl rfl (by kernel_rfl) (fun _ _ _ h => h) (by rfl) (by intro w'; go_simp; with_reducible rfl) _ (by simp only [zN_]; rfl) ?_
          refine p_ 5 113 _ (bA_ 16 37) rfl rfl (by kernel_rfl) (fun _ _ _ h => h) (by rfl) (by intro w'; go_simp; with_reducible rfl) _ (by simp only [zN_]; rfl) ?_
          refine p_ 8 116 _ (bA_ 16 293) rfl rfl (by kernel_rfl) (fun _ _ _ h => h) (by rfl) (by intro w'; go_simp; with_reducible rfl) _ (by simp only [zN_]; rfl) ?_
          refine p_ 9 117 _ (bA_ 16 805) rfl rfl (by kernel_rfl) (fun _ _ _ h => h) (by rfl) (by intro w'; go_simp; with_reducible rfl) _ (by simp only [zN_]; rfl) ?_
          refine p_ 10 118 _ (bA_ 16 1829) rfl rfl (by kernel_rfl) (fun _ _ _ h => h) (by rfl) (by intro w'; go_simp; with_reducible rfl) _ (by simp only [zN_]; rfl) ?_
          refine p_ 12 120 _ (bA_ 16 5925) rfl rfl (by kernel_rfl) (fun _ _ _ h => h) (by rfl) (by intro w'; go_simp; with_reducible rfl) _ (by simp only [zN_]; rfl) ?_
          refine t_ 1 109 ?_ (bA_ 16 5927) rfl rfl (by kernel_rfl) (fun _ _ _ h => h) (by rfl) ?_ hHeld ?_ ?_ ?_
          rotate_left
          · rintro w' ⟨s0, s1, s2, s3, s4⟩
            go_simp
            with_reducible rfl
          rotate_left; · simp only [zN_]; rfl
          refine p_ 3 111 _ (bA_ 16 5935) rfl rfl (by kernel_rfl) (fun _ _ _ h => h) (by rfl) (by intro w'; go_simp; with_reducible rfl) _ (by simp only [zN_]; rfl) ?_
          refine t_ 4 112 ?_ (bA_ 16 5951) rfl rfl (by kernel_rfl) (fun _ _ _ h => h) (by rfl) ?_ hHeld ?_ ?_ ?_
          rotate_left
          · rintro w' ⟨s0, s1, s2, s3, s4⟩
            go_simp
            with_reducible rfl
          rotate_left; · simp only [zN_]; rfl
          refine p_ 6 114 _ (bA_ 16 6015) rfl rfl (by kernel_rfl) (fun _ _ _ h => h) (by rfl) (by intro w'; go_simp; with_reducible rfl) _ (by simp only [zN_]; rfl) ?_
          refine t_ 7 115 ?_ (bA_ 16 6143) rfl rfl (by kernel_rfl) (fun _ _ _ h => h) (by rfl) ?_ hHeld ?_ ?_ ?_
          rotate_left
          · rintro w' ⟨s0, s1, s2, s3, s4⟩
            go_simp
            with_reducible rfl
          rotate_left; · simp only [zN_]; rfl
          refine t_ 11 119 ?_ (bA_ 16 8191) rfl rfl (by kernel_rfl) (fun _ _ _ h => h) (by rfl) ?_ hHeld ?_ ?_ ?_
          rotate_left
          · rintro w' ⟨s0, s1, s2, s3, s4⟩
            go_simp
            with_reducible rfl
          rotate_left; · simp only [zN_]; rfl
          refine p_ 13 121 _ (bA_ 16 16383) rfl rfl (by kernel_rfl) (fun _ _ _ h => h) (by rfl) (by intro w'; go_simp; with_reducible rfl) _ (by simp only [zN_]; rfl) ?_
          refine t_ 14 122 ?_ (bA_ 16 32767) rfl rfl (by kernel_rfl) (fun _ _ _ h => h) (by rfl) ?_ hHeld ?_ ?_ ?_
          rotate_left
          · rintro w' ⟨s0, s1, s2, s3, s4⟩
            go_simp
            with_reducible rfl
          rotate_left; · simp only [zN_]; rfl
          refine p_ 15 123 _ (bA_ 16 65535) rfl rfl (by kernel_rfl) (fun _ _ _ h => h) (by rfl) (by intro w'; go_simp; with_reducible rfl) _ (by simp only [zN_]; rfl) ?_
          refine done_ (by kernel_rfl) ?_
          go_wp2_with fail
          go_roundw
          case measure => simp [intOf]; omega
          case rel => exact ⟨u + 1, by go_num, by omega, Lib.hid HBU.out.drew⟩
        · have hul : n ≤ u := by omega
          obtain ⟨c0, c1, c2, c3, c4⟩ := HCF.out wr HBU.out
          obtain ⟨gl, tl⟩ := HLT.out wr HBU.out
          go_wp2_with fail
          go_roundw
          case measure => simp [intOf]; omega
          case rel => exact ⟨s + 1, by go_num, by omega, HBU⟩
    · have hsl : n ≤ s := by omega
      obtain ⟨c0, c1, c2, c3, c4⟩ := HCF.out wr HB.out
      obtain ⟨gl, tl⟩ := HLT.out wr HB.out
      have HBZ := Lib.hid (HB0.out wr (HG8.out.trans (HB.out.mono HG8.out.size)))
      go_wp2_with fail
      refine HBZ.out.mono ?_
      rintro e W9 ⟨E0, f0, E1, f1, E2, f2, E3, f3, E4, f4, E5, f5, rfl, hT, g9⟩
      rw [HNO.out.1, HNO.out.2.1, HNO.out.2.2]
      have HB9 := Lib.hid (HB.out.trans (g9.mono HB.out.size))
      have HBW := Lib.hid (HB5.out.trans (HG8.out.mono HB5.out.size))
      clear hT g9 c0 c1 c2 c3 c4 gl tl HBZ
      generalize T0.out.length = k2 at *
      generalize T0.inn.length = k3 at *
      generalize T0.so.length = k4 at *
      have HXB := Lib.hid (blk_new W9 (.cells #[.slice E0 0 f0, .slice E1 0 f1, .slice E2 k2 f2, .slice E3 k3 f3, .slice E4 k4 f4, .slice E5 n f5] 46))
      have HB10 : Hid (Below W8.heap.size W8 (W9.alloc (.cells #[.slice E0 0 f0, .slice E1 0 f1, .slice E2 k2 f2, .slice E3 k3 f3, .slice E4 k4 f4, .slice E5 n f5] 46))) := Lib.hid (HB9.out.alloc HB9.out.size _)
      obtain ⟨c0, c1, c2, c3, c4⟩ := HCF.out W9 HB9.out
      obtain ⟨gl, tl⟩ := HLT.out W9 HB9.out
      have t0 : ((n : Int) == (n : Int)) = true := by simp
      go_wp2_with (first | (go_at_call 22; refine (HKN.out _).mono ?_; rintro e WK ⟨rfl, gk⟩; have HBK := Lib.hid (HBW.out.trans ((HB10.out.trans (gk.mono HB10.out.size)).mono HBW.out.size)); clear gk))
      all_goals (try rw [Exit.noGoto_ret])
      all_goals go_ret
      all_goals exact ⟨rfl, HBK.out⟩
end Go.Proofs.YtfkejflmhidnaaaGreat.PAll
namespace Go.Proofs.YtfkejflmhidnaaaGreat.PAll
open RowKit YtfkejflmhidnaaaGreatW.PrintWords YtfkejflmhidnaaaGreatW.PrintLast YtfkejflmhidnaaaGreatW.PrintMore
theorem tall_card (W : World) (a0 : Int) (A1 : Option Addr) (c1 : Nat) (l1 : List S85) (_w0 : (Lit.int .i64 a0).wf = true) (hc1 : l1.length ≤ c1) (hC1 : Kd.C k85 W A1 l1.length l1) :
    Calls Tryz.prog 4 #[.int .i64 a0, .slice A1 l1.length c1] W fun r w' => r = .returned (.bool true) ∧ Below W.heap.size W w' :=
  tall_walk W a0 A1 c1 l1 hC1 hc1
end Go.Proofs.YtfkejflmhidnaaaGreat.PAll
