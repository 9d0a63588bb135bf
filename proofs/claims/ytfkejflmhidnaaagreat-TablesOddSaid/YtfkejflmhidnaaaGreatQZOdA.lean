import Derived.Test.YtfkejflmhidnaaaGreatQZOdC
import Derived.Test.YtfkejflmhidnaaaGreatQZRbA
import Derived.Test.YtfkejflmhidnaaaGreatQZSlP
set_option linter.all false
namespace Go.Proofs.YtfkejflmhidnaaaGreat.PAll
open RowKit YtfkejflmhidnaaaGreatW.PrintWords YtfkejflmhidnaaaGreatW.PrintLast YtfkejflmhidnaaaGreatW.PrintMore
open Hp hiding Good
theorem cut38 (A : Option Addr) (n c m : Nat) (hm : m ≤ c) (W : World) : (Instr.slice 38 (.slice A n c) none (some (.int .i64 (m : Int))) none).run Tryz.prog W = .ok (.slice A m c) W := by
 have hel : Tryz.prog.elem 38 = 28 := by kernel_rfl
 rw [run_slice_h W 38 A n c (by kernel_rfl) .i64 (m : Int) (Int.natCast_nonneg _) (by omega), hel]
 have h2 : A.map (fun a => a.add 0) = A := by
  cases A with
  | none => rfl
  | some a => simp [Addr.add]
 simp [sliced, h2]
theorem inv_list {n : Nat} {rank : List Int} {ways : List S71} (V : VH n rank ways) : ∃ x : List Int, ∀ u : Nat, u < n → rd x (rd rank u) = u := by
 have each : ∀ r : Nat, ∃ u : Nat, (∃ v : Nat, v < n ∧ rd rank v = r) → u < n ∧ rd rank u = r := fun r => by
  by_cases h : ∃ v : Nat, v < n ∧ rd rank v = r
  ·obtain ⟨v, hv⟩ := h; exact ⟨v, fun _ => hv⟩
  ·exact ⟨0, fun g => absurd g h⟩
 obtain ⟨f, hf⟩ := Classical.axiomOfChoice each
 refine ⟨(List.range n).map (fun r => (f r : Int)), fun u hu => ?_⟩
 obtain ⟨h0, h1⟩ := V.rin u hu
 obtain ⟨r, hr⟩ := Int.eq_ofNat_of_zero_le h0
 have hrn : r < n := by omega
 obtain ⟨g1, g2⟩ := hf r ⟨u, hu, hr⟩
 rw [hr, rd_get (by simpa using hrn)]
 simp only [List.getElem_map, List.getElem_range]
 rw [V.rinj (f r) u g1 hu (by rw [g2, hr])]
def OPost (cc n : Nat) (T : TabP) (W : World) (r : Ending) (w' : World) : Prop := ∃ B0 d0 B1 d1 B2 d2 B3 d3 B4 d4 B5 d5, r = .returned (.agg #[.slice B0 cc d0, .slice B1 cc d1, .slice B2 n d2, .slice B3 n d3, .slice B4 n d4, .slice B5 n d5]) ∧ TabR w' W.heap.size (.agg (TabAt.cells ⟨B0, d0, B1, d1, B2, d2, B3, d3, B4, d4, B5, d5⟩ T)) T ∧ Below W.heap.size W w'
structure LenT (cc n : Nat) (T : TabP) : Prop where
 g : T.g.length = cc
 far : T.far.length = cc
 out : T.out.length = n
 inn : T.inn.length = n
 so : T.so.length = n
 si : T.si.length = n
theorem LenT.cells {cc n : Nat} {T : TabP} (h : LenT cc n T) (B0 B1 B2 B3 B4 B5 : Option Addr) (d0 d1 d2 d3 d4 d5 : Nat) : TabAt.cells ⟨B0, d0, B1, d1, B2, d2, B3, d3, B4, d4, B5, d5⟩ T = #[.slice B0 cc d0, .slice B1 cc d1, .slice B2 n d2, .slice B3 n d3, .slice B4 n d4, .slice B5 n d5] := by
 unfold TabAt.cells
 rw [h.g, h.far, h.out, h.inn, h.so, h.si]
theorem tabC_of {w : World} {b : Nat} {a : TabAt} {t : TabP} (h : TabR w b (.agg (a.cells t)) t) : TabC w a t := by
 obtain ⟨a', e', hC⟩ := h.reads
 obtain ⟨A0, c0, A1, c1, A2, c2, A3, c3, A4, c4, A5, c5⟩ := a
 obtain ⟨A0', c0', A1', c1', A2', c2', A3', c3', A4', c4', A5', c5'⟩ := a'
 simp [TabAt.cells] at e'
 obtain ⟨⟨rfl, rfl⟩, ⟨rfl, rfl⟩, ⟨rfl, rfl⟩, ⟨rfl, rfl⟩, ⟨rfl, rfl⟩, ⟨rfl, rfl⟩⟩ := e'
 exact hC
theorem tab_box {W0 W : World} {b tb cc n : Nat} {T : TabP} (hL : LenT cc n T) {B0 B1 B2 B3 B4 B5 : Option Addr} {d0 d1 d2 d3 d4 d5 : Nat} (h : TabR W b (.agg (TabAt.cells ⟨B0, d0, B1, d1, B2, d2, B3, d3, B4, d4, B5, d5⟩ T)) T) {x0 x1 x2 x3 x4 x5 : Value} (hb : W.heap[tb]? = some (.cells #[x0, x1, x2, x3, x4, x5] 46 (0, 0))) (hg : Below W0.heap.size W0 W) (hl : W0.heap.size ≤ tb) :
  let W' := (((((W.setCell ⟨tb, 0, none⟩ (.slice B0 cc d0)).setCell ⟨tb, 1, none⟩ (.slice B1 cc d1)).setCell ⟨tb, 2, none⟩ (.slice B2 n d2)).setCell ⟨tb, 3, none⟩ (.slice B3 n d3)).setCell ⟨tb, 4, none⟩ (.slice B4 n d4)).setCell ⟨tb, 5, none⟩ (.slice B5 n d5)
  TabR W' b (.agg (TabAt.cells ⟨B0, d0, B1, d1, B2, d2, B3, d3, B4, d4, B5, d5⟩ T)) T ∧ W'.heap[tb]? = some (.cells #[.slice B0 cc d0, .slice B1 cc d1, .slice B2 n d2, .slice B3 n d3, .slice B4 n d4, .slice B5 n d5] 46 (0, 0)) ∧ Below W0.heap.size W0 W' := by
 have p0 := blk_put hb 0 (.slice B0 cc d0) (cs' := #[.slice B0 cc d0, x1, x2, x3, x4, x5]) rfl
 have p1 := blk_put p0 1 (.slice B1 cc d1) (cs' := #[.slice B0 cc d0, .slice B1 cc d1, x2, x3, x4, x5]) rfl
 have p2 := blk_put p1 2 (.slice B2 n d2) (cs' := #[.slice B0 cc d0, .slice B1 cc d1, .slice B2 n d2, x3, x4, x5]) rfl
 have p3 := blk_put p2 3 (.slice B3 n d3) (cs' := #[.slice B0 cc d0, .slice B1 cc d1, .slice B2 n d2, .slice B3 n d3, x4, x5]) rfl
 have p4 := blk_put p3 4 (.slice B4 n d4) (cs' := #[.slice B0 cc d0, .slice B1 cc d1, .slice B2 n d2, .slice B3 n d3, .slice B4 n d4, x5]) rfl
 have p5 := blk_put p4 5 (.slice B5 n d5) (cs' := #[.slice B0 cc d0, .slice B1 cc d1, .slice B2 n d2, .slice B3 n d3, .slice B4 n d4, .slice B5 n d5]) rfl
 exact ⟨(((((h.set hb 0 _).set p0 1 _).set p1 2 _).set p2 3 _).set p3 4 _).set p4 5 _, p5, (((((hg.setCell (p := ⟨tb, 0, none⟩) hl _).setCell (p := ⟨tb, 1, none⟩) hl _).setCell (p := ⟨tb, 2, none⟩) hl _).setCell (p := ⟨tb, 3, none⟩) hl _).setCell (p := ⟨tb, 4, none⟩) hl _).setCell (p := ⟨tb, 5, none⟩) hl _⟩
set_option maxRecDepth 100000 in
set_option maxHeartbeats 16000000 in
theorem todd_walk (w : World) (a0 : Int) (A1 : Option Addr) (c1 : Nat) (l1 : List S85) (hr1 : Kd.C k85 w A1 l1.length l1) (hc1 : l1.length ≤ c1) (k : Int) (hk0 : 0 ≤ k) (hk1 : k ≤ 255) (a : Int) (ha0 : 0 ≤ a) (ha1 : a ≤ 255) :
  Calls Tryz.prog 5 #[.int .i64 a0, .slice A1 l1.length c1, .int .u8 k, .int .u8 a] w fun r w' => r = .returned (.bool true) ∧ Below w.heap.size w w' := by
 obtain ⟨n, A, hok, hof⟩ := of7_walk w a0 A1 c1 l1 hr1 hc1
 have HOF := Lib.hid hof
 have HOK := Lib.hid hok
 have hn0 := hok.n0
 have hn1 := hok.n1
 obtain ⟨c0, hc, hcn⟩ := tmod_natF hk0 n (by omega)
 obtain ⟨v, hv, hvn⟩ := tmod_natF ha0 n (by omega)
 have HKN : Hid (∀ W, Calls Tryz.prog 22 #[] W fun r w' => r = .returned (.bool true) ∧ Below W.heap.size W w') := Lib.hid (fun W => known15_walk W)
 clear hof hok hr1 hc1
 have hwk : IntKind.i64.wrap k = k := i64w rfl (by omega) (by omega)
 have hwa : IntKind.i64.wrap a = a := i64w rfl (by omega) (by omega)
 have hnz : ((n : Int) == 0) = false := by simp; omega
 have hnz' : (n : Int) ≠ 0 := by omega
 have hwc : IntKind.i64.wrap (1 + (c0 : Int)) = 1 + (c0 : Int) := i64w rfl (by omega) (by omega)
 have hwc0 : IntKind.i64.wrap (c0 : Int) = (c0 : Int) := i64w rfl (by omega) (by omega)
 have hwv : IntKind.i64.wrap (v : Int) = (v : Int) := i64w rfl (by omega) (by omega)
 go_enter Tryz.func5, Tryz.ntmps5
 go_upto_region 2 with (first | (go_at_call 11; refine HOF.out.mono ?_; rintro e W2 ⟨Aa, ca, rfl, hca, hCA, g2⟩; have HCA := Lib.hid (And.intro hca hCA); have HG2 := Lib.hid g2; clear hca hCA g2))
 have HM3 := Lib.hid (blk_new W2 (.cells #[.int .i64 n, .slice Aa A.length ca] 24))
 have HG3 : Hid (Below w.heap.size w (W2.alloc (.cells #[.int .i64 n, .slice Aa A.length ca] 24))) := Lib.hid (HG2.out.alloc HG2.out.size _)
 have HCA3 : Hid (A.length ≤ ca ∧ Kd.C k85 (W2.alloc (.cells #[.int .i64 n, .slice Aa A.length ca] 24)) Aa A.length A) := Lib.hid ⟨HCA.out.1, Kd.C_alloc HCA.out.2 _⟩
 clear HCA HG2
 generalize W2.alloc (.cells #[.int .i64 n, .slice Aa A.length ca] 24) = W3 at *
 generalize W2.heap.size = gm at *
 have m0 := (blk_cell HM3.out 0).trans rfl
 have m1 := (blk_cell HM3.out 1).trans rfl
 have ml := blk_lt HM3.out
 have HO9 := Lib.hid (of9_walk W3 n A Aa ca HCA3.out.2 HCA3.out.1 HOK.out)
 generalize A.length = al at *
 go_wp2_with fail
 refine HO9.out.mono ?_
 rintro e W4 ⟨vr, vw, tt, rk, H, rfl, hBI, hRr, hRw, g4⟩
 obtain ⟨rA, rc, hvr, hrc, hrC⟩ := Kd.R_reads hRr
 obtain ⟨wA, wc, hvw, hwc', hwC⟩ := Kd.R_reads hRw
 subst hvr hvw
 have V := hBI.vh hn1
 rw [V.rl] at hrC
 rw [V.rl]
 obtain ⟨x, hx⟩ := inv_list V
 obtain ⟨m, hm⟩ : ∃ m, H.length = m := ⟨_, rfl⟩
 rw [hm]
 have HM4 := Lib.hid ((g4.block _ (blk_lt HM3.out)).trans HM3.out)
 have HG4 := Lib.hid (HG3.out.trans (g4.mono HG3.out.size))
 have HHO : Hid (HOk n 1125899906842624 (newH n rk x H) ∧ GrOk n (newH n rk x H)) := Lib.hid ⟨hok_new V x, grok_new V x hx⟩
 have hg45 : Below W4.heap.size W4 (W4.alloc (.cells #[.slice rA n rc, .slice wA m wc] 31)) := (Below.refl _ _).alloc (Nat.le_refl _) _
 have HX5 := Lib.hid (blk_new W4 (.cells #[.slice rA n rc, .slice wA m wc] 31))
 have HM5 := Lib.hid ((hg45.block _ (blk_lt HM4.out)).trans HM4.out)
 have HG5 := Lib.hid (HG4.out.trans (hg45.mono HG4.out.size))
 have HRK := Lib.hid (Kd.C_below hrC hg45)
 have HWK := Lib.hid (Kd.C_below hwC hg45)
 have HV := Lib.hid V
 have HX := Lib.hid hx
 have HML := Lib.hid hm
 clear hBI hRr hRw g4 hrc hwc' hrC hwC V hx hm HO9 HOF HCA3 HM3 HG3 HM4 HG4 HOK m0 m1 ml
 go_upto_region 3 with fail
 clear hg45
 generalize W4.alloc (.cells #[.slice rA n rc, .slice wA m wc] 31) = W5 at *
 generalize W4.heap.size = gx at *
 have m0 := (blk_cell HM5.out 0).trans rfl
 have ml := blk_lt HM5.out
 go_upto_region 5 with fail
 clear m0 ml
 generalize hcI : 1 + (c0 : Int) = cI at *
 obtain ⟨cc, hcc⟩ : ∃ cc : Nat, (cc : Int) = 1 + (c0 : Int) := ⟨1 + c0, by omega⟩
 have hcI2 : cI = (cc : Int) := by omega
 subst hcI2
 clear hcI
 have hcn' : cc ≤ n := by omega
 have hwcc : IntKind.i64.wrap ((cc : Int) - 1) = (c0 : Int) := i64w (by omega) (by omega) (by omega)
 have hc00 : (0 : Int) ≤ (c0 : Int) := Int.natCast_nonneg _
 have hc01 : (c0 : Int) < (cc : Int) := by omega
 have hccp : (0 : Int) < (cc : Int) := by omega
 have hcp : 0 < cc := by omega
 clear hcc
 have HT : Hid (∃ T, buildT n (newH n rk x H) (cc : Int) = T ∧ LenT cc n T ∧ TabSm T ∧ (rd_L5 T.far (c0 : Int)).length = cc ∧ checkP n T = 0 ∧ checkP ((n : Int) + 1) T = 2) := Lib.hid (by
  have hh := HHO.out.1
  have hG := HHO.out.2
  have hgd := gd_build hh (by omega) hG (cc : Int)
  have hgl : (buildT n (newH n rk x H) (cc : Int)).g.length = cc := by
   show (greatP n (newH n rk x H) (cc : Int)).length = cc
   rw [greatP_len, clip_nat hcn']
  refine ⟨_, rfl, ⟨hgl, hgd.far.trans hgl, by simp [buildT], by simp [buildT], by simp [buildT], by simp [buildT]⟩, sm_build (by omega) _, (hgd.row c0 (by omega)).trans hgl, check_build hh (by omega) hG _, chk_out (by omega) (risingR_len ?_)⟩
  have : (buildT n (newH n rk x H) (cc : Int)).out.length = n := by simp [buildT]
  omega)
 obtain ⟨T, hTe, hLT, hSM, hfr, hck0, hck1⟩ := HT.out
 have HLT := Lib.hid hLT
 have HSM := Lib.hid hSM
 have HFR := Lib.hid hfr
 have HCK := Lib.hid (And.intro hck0 hck1)
 have HRB : Hid (∀ W, Below W5.heap.size W5 W → Calls Tryz.prog 23 #[.agg #[.slice rA n rc, .slice wA m wc], .int .i64 cc] W fun r w' => OPost cc n T W r w') := Lib.hid (fun W g => by
  have := rbuild_walk W n m rk H HML.out HV.out rA wA rc wc (Kd.C_below HRK.out g) (Kd.C_below HWK.out g) x HX.out (cc : Int)
  rw [hTe] at this
  refine this.mono ?_
  rintro e w' ⟨vT, rfl, hT, hB⟩
  obtain ⟨⟨B0, d0, B1, d1, B2, d2, B3, d3, B4, d4, B5, d5⟩, rfl, hC⟩ := hT.reads
  exact ⟨B0, d0, B1, d1, B2, d2, B3, d3, B4, d4, B5, d5, by rw [HLT.out.cells], hT, hB⟩)
 clear hTe hLT hSM hfr hck0 hck1 HT HHO HRK HWK HV HX HML
 have HCF : Hid (∀ W, Below W5.heap.size W5 W → (W.cell? ⟨gm, 0, none⟩ = some (.int .i64 n) ∧ gm < W.heap.size ∧ gx < W.heap.size) ∧ W.cell? ⟨gx, 0, none⟩ = some (.slice rA n rc) ∧ W.cell? ⟨gx, 1, none⟩ = some (.slice wA m wc)) := Lib.hid (fun W g => by
  have hm := (g.block _ (blk_lt HM5.out)).trans HM5.out
  have hx := (g.block _ (blk_lt HX5.out)).trans HX5.out
  exact ⟨⟨(blk_cell hm 0).trans rfl, blk_lt hm, blk_lt hx⟩, (blk_cell hx 0).trans rfl, (blk_cell hx 1).trans rfl⟩)
 clear HM5 HX5
 have HR5 := Lib.hid (HRB.out W5 (Below.refl _ _))
 obtain ⟨⟨m0, ml, xl⟩, x0, x1⟩ := HCF.out W5 (Below.refl _ _)
 go_wp2_with fail
 refine HR5.out.mono ?_
 rintro e W6 ⟨B0, d0, B1, d1, B2, d2, B3, d3, B4, d4, B5, d5, rfl, hT, g6⟩
 clear m0 ml xl x0 x1 HR5
 have HTB := Lib.hid (blk_new W6 (.cells #[.slice B0 cc d0, .slice B1 cc d1, .slice B2 n d2, .slice B3 n d3, .slice B4 n d4, .slice B5 n d5] 46))
 have hg67 : Below W6.heap.size W6 (W6.alloc (.cells #[.slice B0 cc d0, .slice B1 cc d1, .slice B2 n d2, .slice B3 n d3, .slice B4 n d4, .slice B5 n d5] 46)) := (Below.refl _ _).alloc (Nat.le_refl _) _
 have HT7 := Lib.hid (hT.below hg67)
 have HG7 := Lib.hid (g6.trans (hg67.mono g6.size))
 have HGE : Hid (W5.heap.size ≤ W6.heap.size) := Lib.hid g6.size
 clear hT g6
 go_upto_region 6 with fail
 clear hg67
 generalize W6.alloc (.cells #[.slice B0 cc d0, .slice B1 cc d1, .slice B2 n d2, .slice B3 n d3, .slice B4 n d4, .slice B5 n d5] 46) = W7 at *
 generalize W6.heap.size = tb at *
 have HCH : Hid (∀ W, Below W7.heap.size W7 W → Calls Tryz.prog 24 #[.int .i64 n, .agg #[.slice B0 cc d0, .slice B1 cc d1, .slice B2 n d2, .slice B3 n d3, .slice B4 n d4, .slice B5 n d5]] W fun r w' => r = .returned (.int .i64 0) ∧ Below W.heap.size W w') := Lib.hid (fun W g => by
  have := tcheck_walk W _ T n ((tabC_of HT7.out).below g) HSM.out
  rw [HCK.out.1, HLT.out.cells] at this
  exact this)
 have HCH1 : Hid (∀ W, Below W7.heap.size W7 W → Calls Tryz.prog 24 #[.int .i64 ((n : Int) + 1), .agg #[.slice B0 cc d0, .slice B1 cc d1, .slice B2 n d2, .slice B3 n d3, .slice B4 n d4, .slice B5 n d5]] W fun r w' => r = .returned (.int .i64 2) ∧ Below W.heap.size W w') := Lib.hid (fun W g => by
  have := tcheck_walk W _ T ((n : Int) + 1) ((tabC_of HT7.out).below g) HSM.out
  rw [HCK.out.2, HLT.out.cells] at this
  exact this)
 have HCA := Lib.hid (HCH.out W7 (Below.refl _ _))
 have hwn : IntKind.i64.wrap ((n : Int) + 1) = (n : Int) + 1 := i64w rfl (by omega) (by omega)
 obtain ⟨⟨m0, ml, xl⟩, x0, x1⟩ := HCF.out W7 HG7.out
 have t0 := (blk_cell HTB.out 0).trans rfl
 have t1 := (blk_cell HTB.out 1).trans rfl
 have t2 := (blk_cell HTB.out 2).trans rfl
 have t3 := (blk_cell HTB.out 3).trans rfl
 have t4 := (blk_cell HTB.out 4).trans rfl
 have t5 := (blk_cell HTB.out 5).trans rfl
 have tl := blk_lt HTB.out
 go_upto_region 8 with (first | (go_at_call 24; refine HCA.out.mono ?_; rintro e W8 ⟨rfl, g⟩; have HG8 := Lib.hid g; have HCB := Lib.hid (HCH1.out W8 g); clear HCA g m0 ml xl x0 x1 t0 t1 t2 t3 t4 t5 tl; obtain ⟨⟨m0, ml, xl⟩, x0, x1⟩ := HCF.out W8 (HG7.out.trans (HG8.out.mono HG7.out.size)); have hB8 := (HG8.out.block _ (blk_lt HTB.out)).trans HTB.out; have t0 := (blk_cell hB8 0).trans rfl; have t1 := (blk_cell hB8 1).trans rfl; have t2 := (blk_cell hB8 2).trans rfl; have t3 := (blk_cell hB8 3).trans rfl; have t4 := (blk_cell hB8 4).trans rfl; have t5 := (blk_cell hB8 5).trans rfl; have tl := blk_lt hB8) | (go_at_call 24; refine HCB.out.mono ?_; rintro e W9 ⟨rfl, g⟩; have HG9 := Lib.hid (HG8.out.trans (g.mono HG8.out.size)); clear HCB g))
 clear m0 ml xl x0 x1 t0 t1 t2 t3 t4 t5 tl hB8
 have HV := Lib.hid (HG7.out.trans (HG9.out.mono HG7.out.size))
 have HB := Lib.hid ((HG9.out.block _ (blk_lt HTB.out)).trans HTB.out)
 have HT := Lib.hid (HT7.out.below HG9.out)
 have HBS : Hid (∃ b, W5.heap.size ≤ b ∧ TabR W9 b (.agg (TabAt.cells ⟨B0, d0, B1, d1, B2, d2, B3, d3, B4, d4, B5, d5⟩ T)) T) := Lib.hid ⟨_, Nat.le_refl _, HT.out⟩
 clear HT HT7 HG7 HG8 HG9 HTB HCH HCH1
 have hwn1 : IntKind.i64.wrap ((n : Int) - 1) = ((n - 1 : Nat) : Int) := i64w (by omega) (by omega) (by omega)
 have hv0 : (0 : Int) ≤ (v : Int) := Int.natCast_nonneg _
 have hv1 : (v : Int) < (n : Int) := by omega
 generalize W9 = V at *
 obtain ⟨b, hbge, hTV⟩ := HBS.out
 have hCV := tabC_of hTV
 obtain ⟨g, z, hA, hz, hge, ⟨cells, hty⟩, hf⟩ := odd1 hTV hCV HSM.out n c0 (by omega) (by rw [HLT.out.g]; omega)
 have hA' : B0 = some ⟨g, 0, none⟩ := hA
 subst hA'
 rw [HLT.out.cells] at hf
 have hne : tb ≠ g := blk_ne HB.out hty (by decide)
 have xf : V.frozen? ⟨g, c0, none⟩ = false := blk_frozen hty c0
 have xs := blk_lt hty
 have HVn := Lib.hid (HV.out.setCell (p := ⟨g, c0, none⟩) (Nat.le_trans hbge hge) (.int .i64 n))
 have HBn := Lib.hid (blk_far HB.out (p := ⟨g, c0, none⟩) hne (.int .i64 n))
 have HF := Lib.hid hf
 obtain ⟨⟨m0, ml, xl⟩, x0, x1⟩ := HCF.out V HV.out
 have t0 := (blk_cell HB.out 0).trans rfl
 have t1 := (blk_cell HB.out 1).trans rfl
 have t2 := (blk_cell HB.out 2).trans rfl
 have t3 := (blk_cell HB.out 3).trans rfl
 have t4 := (blk_cell HB.out 4).trans rfl
 have t5 := (blk_cell HB.out 5).trans rfl
 have tl := blk_lt HB.out
 clear hTV hCV hf HBS hA hge hbge hne
 go_upto_region 9 with fail
 clear m0 ml xl x0 x1 t0 t1 t2 t3 t4 t5 tl xf xs hz hty HB HV
 generalize V.setCell ⟨g, c0, none⟩ (.int .i64 n) = V1 at *
 have HC1 := Lib.hid (HF.out V1 (Below.refl _ _))
 obtain ⟨⟨m0, ml, xl⟩, x0, x1⟩ := HCF.out V1 HVn.out
 have t0 := (blk_cell HBn.out 0).trans rfl
 have t1 := (blk_cell HBn.out 1).trans rfl
 have t2 := (blk_cell HBn.out 2).trans rfl
 have t3 := (blk_cell HBn.out 3).trans rfl
 have t4 := (blk_cell HBn.out 4).trans rfl
 have t5 := (blk_cell HBn.out 5).trans rfl
 have tl := blk_lt HBn.out
 go_upto_region 10 with (first | (go_at_call 24; refine HC1.out.mono ?_; rintro e V2 ⟨rfl, g⟩; have HV2 := Lib.hid (HVn.out.trans (g.mono HVn.out.size)); have HB2 := Lib.hid ((g.block _ (blk_lt HBn.out)).trans HBn.out); clear g))
 clear m0 ml xl x0 x1 t0 t1 t2 t3 t4 t5 tl HF HC1 HVn HBn
 have HR2 := Lib.hid (HRB.out V2 HV2.out)
 obtain ⟨⟨m0, ml, xl⟩, x0, x1⟩ := HCF.out V2 HV2.out
 have t0 := (blk_cell HB2.out 0).trans rfl
 have t1 := (blk_cell HB2.out 1).trans rfl
 have t2 := (blk_cell HB2.out 2).trans rfl
 have t3 := (blk_cell HB2.out 3).trans rfl
 have t4 := (blk_cell HB2.out 4).trans rfl
 have t5 := (blk_cell HB2.out 5).trans rfl
 have tl := blk_lt HB2.out
 go_upto_region 11 with (first | (go_at_call 23; refine HR2.out.mono ?_; rintro e V3 ⟨E0, e0, E1, e1, E2, e2, E3, e3, E4, e4, E5, e5, rfl, hT, g⟩; have HT3 := Lib.hid hT; have HV3 := Lib.hid (HV2.out.trans (g.mono HV2.out.size)); have HB3 := Lib.hid ((g.block _ (blk_lt HB2.out)).trans HB2.out); have HS3 := Lib.hid HV2.out.size; clear hT g m0 ml xl x0 x1 t0 t1 t2 t3 t4 t5 tl; have t0 := (blk_cell HB3.out 0).trans rfl; have t1 := (blk_cell HB3.out 1).trans rfl; have t2 := (blk_cell HB3.out 2).trans rfl; have t3 := (blk_cell HB3.out 3).trans rfl; have t4 := (blk_cell HB3.out 4).trans rfl; have t5 := (blk_cell HB3.out 5).trans rfl; have tl := blk_lt HB3.out; have xf : ∀ j, V3.frozen? ⟨tb, j, none⟩ = false := fun j => blk_frozen HB3.out j))
 have hbx := tab_box HLT.out HT3.out HB3.out HV3.out HGE.out
 simp only at hbx
 have HBS : Hid (∃ b, W5.heap.size ≤ b ∧ TabR _ b (.agg (TabAt.cells ⟨E0, e0, E1, e1, E2, e2, E3, e3, E4, e4, E5, e5⟩ T)) T) := Lib.hid ⟨_, HS3.out, hbx.1⟩
 have HB := Lib.hid hbx.2.1
 have HV := Lib.hid hbx.2.2
 clear hbx HT3 HV3 HB3 HS3 HR2 HV2 HB2 t0 t1 t2 t3 t4 t5 tl xf
 generalize (((((V3.setCell ⟨tb, 0, none⟩ (.slice E0 cc e0)).setCell ⟨tb, 1, none⟩ (.slice E1 cc e1)).setCell ⟨tb, 2, none⟩ (.slice E2 n e2)).setCell ⟨tb, 3, none⟩ (.slice E3 n e3)).setCell ⟨tb, 4, none⟩ (.slice E4 n e4)).setCell ⟨tb, 5, none⟩ (.slice E5 n e5) = V at *
 obtain ⟨b, hbge, hTV⟩ := HBS.out
 have hCV := tabC_of hTV
 obtain ⟨fo, fi, fc, z, hA, hy, hz, hge, ⟨cells, hty⟩, hf⟩ := odd2 hTV hCV HSM.out n c0 (by omega) (by rw [HLT.out.far]; omega) (by rw [HFR.out]; omega)
 rw [HFR.out] at hy
 have hA' : E1 = some ⟨fo, 0, none⟩ := hA
 subst hA'
 rw [HLT.out.cells] at hf
 have hne : tb ≠ fi := blk_ne HB.out hty (by decide)
 have xf : V.frozen? ⟨fi, 0, none⟩ = false := blk_frozen hty 0
 have xs := blk_lt hty
 have HVn := Lib.hid (HV.out.setCell (p := ⟨fi, 0, none⟩) (Nat.le_trans hbge hge) (.int .i64 (-2)))
 have HBn := Lib.hid (blk_far HB.out (p := ⟨fi, 0, none⟩) hne (.int .i64 (-2)))
 have HF := Lib.hid hf
 obtain ⟨⟨m0, ml, xl⟩, x0, x1⟩ := HCF.out V HV.out
 have t0 := (blk_cell HB.out 0).trans rfl
 have t1 := (blk_cell HB.out 1).trans rfl
 have t2 := (blk_cell HB.out 2).trans rfl
 have t3 := (blk_cell HB.out 3).trans rfl
 have t4 := (blk_cell HB.out 4).trans rfl
 have t5 := (blk_cell HB.out 5).trans rfl
 have tl := blk_lt HB.out
 clear hTV hCV hf HBS hA hge hbge hne
 go_upto_region 12 with fail
 clear m0 ml xl x0 x1 t0 t1 t2 t3 t4 t5 tl xf xs hz hty hy HB HV
 generalize V.setCell ⟨fi, 0, none⟩ (.int .i64 (-2)) = V1 at *
 have HC1 := Lib.hid (HF.out V1 (Below.refl _ _))
 obtain ⟨⟨m0, ml, xl⟩, x0, x1⟩ := HCF.out V1 HVn.out
 have t0 := (blk_cell HBn.out 0).trans rfl
 have t1 := (blk_cell HBn.out 1).trans rfl
 have t2 := (blk_cell HBn.out 2).trans rfl
 have t3 := (blk_cell HBn.out 3).trans rfl
 have t4 := (blk_cell HBn.out 4).trans rfl
 have t5 := (blk_cell HBn.out 5).trans rfl
 have tl := blk_lt HBn.out
 go_upto_region 13 with (first | (go_at_call 24; refine HC1.out.mono ?_; rintro e V2 ⟨rfl, g⟩; have HV2 := Lib.hid (HVn.out.trans (g.mono HVn.out.size)); have HB2 := Lib.hid ((g.block _ (blk_lt HBn.out)).trans HBn.out); clear g))
 clear m0 ml xl x0 x1 t0 t1 t2 t3 t4 t5 tl HF HC1 HVn HBn
 have HR2 := Lib.hid (HRB.out V2 HV2.out)
 obtain ⟨⟨m0, ml, xl⟩, x0, x1⟩ := HCF.out V2 HV2.out
 have t0 := (blk_cell HB2.out 0).trans rfl
 have t1 := (blk_cell HB2.out 1).trans rfl
 have t2 := (blk_cell HB2.out 2).trans rfl
 have t3 := (blk_cell HB2.out 3).trans rfl
 have t4 := (blk_cell HB2.out 4).trans rfl
 have t5 := (blk_cell HB2.out 5).trans rfl
 have tl := blk_lt HB2.out
 go_upto_region 14 with (first | (go_at_call 23; refine HR2.out.mono ?_; rintro e V3 ⟨F0, f0, F1, f1, F2, f2, F3, f3, F4, f4, F5, f5, rfl, hT, g⟩; have HT3 := Lib.hid hT; have HV3 := Lib.hid (HV2.out.trans (g.mono HV2.out.size)); have HB3 := Lib.hid ((g.block _ (blk_lt HB2.out)).trans HB2.out); have HS3 := Lib.hid HV2.out.size; clear hT g m0 ml xl x0 x1 t0 t1 t2 t3 t4 t5 tl; have t0 := (blk_cell HB3.out 0).trans rfl; have t1 := (blk_cell HB3.out 1).trans rfl; have t2 := (blk_cell HB3.out 2).trans rfl; have t3 := (blk_cell HB3.out 3).trans rfl; have t4 := (blk_cell HB3.out 4).trans rfl; have t5 := (blk_cell HB3.out 5).trans rfl; have tl := blk_lt HB3.out; have xf : ∀ j, V3.frozen? ⟨tb, j, none⟩ = false := fun j => blk_frozen HB3.out j))
 have hbx := tab_box HLT.out HT3.out HB3.out HV3.out HGE.out
 simp only at hbx
 have HBS : Hid (∃ b, W5.heap.size ≤ b ∧ TabR _ b (.agg (TabAt.cells ⟨F0, f0, F1, f1, F2, f2, F3, f3, F4, f4, F5, f5⟩ T)) T) := Lib.hid ⟨_, HS3.out, hbx.1⟩
 have HB := Lib.hid hbx.2.1
 have HV := Lib.hid hbx.2.2
 have HD5 : Hid (n ≤ f5) := Lib.hid (by
  obtain ⟨_, _, _, _, _, _, ee, _, _, _, _, _, k6⟩ := HT3.out
  simp [TabAt.cells] at ee
  obtain ⟨_, _, _, _, _, rfl⟩ := ee
  have := (Kd.R_reads' k6).2.1
  rw [HLT.out.si] at this
  exact this)
 clear hbx HT3 HV3 HB3 HS3 HR2 HV2 HB2 t0 t1 t2 t3 t4 t5 tl xf
 generalize (((((V3.setCell ⟨tb, 0, none⟩ (.slice F0 cc f0)).setCell ⟨tb, 1, none⟩ (.slice F1 cc f1)).setCell ⟨tb, 2, none⟩ (.slice F2 n f2)).setCell ⟨tb, 3, none⟩ (.slice F3 n f3)).setCell ⟨tb, 4, none⟩ (.slice F4 n f4)).setCell ⟨tb, 5, none⟩ (.slice F5 n f5) = V at *
 obtain ⟨b, hbge, hTV⟩ := HBS.out
 have hCV := tabC_of hTV
 have hf := odd3 hTV hCV HSM.out n (by omega) (by omega) HLT.out.si HB.out (.slice F5 (n - 1) f5)
 simp only [HLT.out.g, HLT.out.far, HLT.out.out, HLT.out.inn, HLT.out.so] at hf
 have xf : V.frozen? ⟨tb, 5, none⟩ = false := blk_frozen HB.out 5
 have HVn := Lib.hid (HV.out.setCell (p := ⟨tb, 5, none⟩) HGE.out (.slice F5 (n - 1) f5))
 have HBn := Lib.hid (blk_put HB.out 5 (.slice F5 (n - 1) f5) rfl)
 have hcut : ∀ W, (Instr.slice 38 (.slice F5 n f5) none (some (.int .i64 ((n - 1 : Nat) : Int))) none).run Tryz.prog W = .ok (.slice F5 (n - 1) f5) W := fun W => by
  have hd : n ≤ f5 := HD5.out
  exact cut38 F5 n f5 (n - 1) (by omega) W
 have HF := Lib.hid hf
 obtain ⟨⟨m0, ml, xl⟩, x0, x1⟩ := HCF.out V HV.out
 have t0 := (blk_cell HB.out 0).trans rfl
 have t1 := (blk_cell HB.out 1).trans rfl
 have t2 := (blk_cell HB.out 2).trans rfl
 have t3 := (blk_cell HB.out 3).trans rfl
 have t4 := (blk_cell HB.out 4).trans rfl
 have t5 := (blk_cell HB.out 5).trans rfl
 have tl := blk_lt HB.out
 clear hTV hCV hf HBS hbge
 go_upto_region 15 with fail
 clear m0 ml xl x0 x1 t0 t1 t2 t3 t4 t5 tl xf hcut HB HV
 generalize V.setCell ⟨tb, 5, none⟩ (.slice F5 (n - 1) f5) = V1 at *
 have HC1 := Lib.hid (HF.out V1 (Below.refl _ _))
 obtain ⟨⟨m0, ml, xl⟩, x0, x1⟩ := HCF.out V1 HVn.out
 have t0 := (blk_cell HBn.out 0).trans rfl
 have t1 := (blk_cell HBn.out 1).trans rfl
 have t2 := (blk_cell HBn.out 2).trans rfl
 have t3 := (blk_cell HBn.out 3).trans rfl
 have t4 := (blk_cell HBn.out 4).trans rfl
 have t5 := (blk_cell HBn.out 5).trans rfl
 have tl := blk_lt HBn.out
 go_upto_region 16 with (first | (go_at_call 24; refine HC1.out.mono ?_; rintro e V2 ⟨rfl, g⟩; have HV2 := Lib.hid (HVn.out.trans (g.mono HVn.out.size)); have HB2 := Lib.hid ((g.block _ (blk_lt HBn.out)).trans HBn.out); clear g))
 clear m0 ml xl x0 x1 t0 t1 t2 t3 t4 t5 tl HF HC1 HVn HBn
 have HR2 := Lib.hid (HRB.out V2 HV2.out)
 obtain ⟨⟨m0, ml, xl⟩, x0, x1⟩ := HCF.out V2 HV2.out
 have t0 := (blk_cell HB2.out 0).trans rfl
 have t1 := (blk_cell HB2.out 1).trans rfl
 have t2 := (blk_cell HB2.out 2).trans rfl
 have t3 := (blk_cell HB2.out 3).trans rfl
 have t4 := (blk_cell HB2.out 4).trans rfl
 have t5 := (blk_cell HB2.out 5).trans rfl
 have tl := blk_lt HB2.out
 go_upto_region 17 with (first | (go_at_call 23; refine HR2.out.mono ?_; rintro e V3 ⟨J0, j0, J1, j1, J2, j2, J3, j3, J4, j4, J5, j5, rfl, hT, g⟩; have HT3 := Lib.hid hT; have HV3 := Lib.hid (HV2.out.trans (g.mono HV2.out.size)); have HB3 := Lib.hid ((g.block _ (blk_lt HB2.out)).trans HB2.out); have HS3 := Lib.hid HV2.out.size; clear hT g m0 ml xl x0 x1 t0 t1 t2 t3 t4 t5 tl; have t0 := (blk_cell HB3.out 0).trans rfl; have t1 := (blk_cell HB3.out 1).trans rfl; have t2 := (blk_cell HB3.out 2).trans rfl; have t3 := (blk_cell HB3.out 3).trans rfl; have t4 := (blk_cell HB3.out 4).trans rfl; have t5 := (blk_cell HB3.out 5).trans rfl; have tl := blk_lt HB3.out; have xf : ∀ j, V3.frozen? ⟨tb, j, none⟩ = false := fun j => blk_frozen HB3.out j))
 have hbx := tab_box HLT.out HT3.out HB3.out HV3.out HGE.out
 simp only at hbx
 have HBS : Hid (∃ b, W5.heap.size ≤ b ∧ TabR _ b (.agg (TabAt.cells ⟨J0, j0, J1, j1, J2, j2, J3, j3, J4, j4, J5, j5⟩ T)) T) := Lib.hid ⟨_, HS3.out, hbx.1⟩
 have HB := Lib.hid hbx.2.1
 have HV := Lib.hid hbx.2.2
 clear hbx HT3 HV3 HB3 HS3 HR2 HV2 HB2 t0 t1 t2 t3 t4 t5 tl xf
 generalize (((((V3.setCell ⟨tb, 0, none⟩ (.slice J0 cc j0)).setCell ⟨tb, 1, none⟩ (.slice J1 cc j1)).setCell ⟨tb, 2, none⟩ (.slice J2 n j2)).setCell ⟨tb, 3, none⟩ (.slice J3 n j3)).setCell ⟨tb, 4, none⟩ (.slice J4 n j4)).setCell ⟨tb, 5, none⟩ (.slice J5 n j5) = V at *
 obtain ⟨b, hbge, hTV⟩ := HBS.out
 have hCV := tabC_of hTV
 obtain ⟨ga, hga, hgc⟩ := laterI hCV.g 0 (by rw [HLT.out.g]; omega)
 obtain ⟨gb, hgb, _⟩ : ∃ g, J0 = some ⟨g, 0, none⟩ ∧ True := by
  obtain ⟨vG, _, _, _, _, _, e, k1, _⟩ := hTV
  simp [TabAt.cells] at e
  obtain ⟨rfl, _⟩ := e
  obtain ⟨g, h1, _⟩ := R_headN k1 (by rw [HLT.out.g]; omega)
  exact ⟨g, h1, trivial⟩
 have hga' : J0 = some ga := hga
 rw [hgb] at hga'
 cases hga'
 have hmem : rd T.g ((0 : Nat) : Int) ∈ T.g := by rw [rd_get (by rw [HLT.out.g]; omega)]; exact List.getElem_mem _
 obtain ⟨g0, hg0⟩ : ∃ g0, rd T.g ((0 : Nat) : Int) = g0 := ⟨_, rfl⟩
 rw [hg0] at hgc hmem
 have hgVa : Below V.heap.size V (V.alloc (.cells #[.int .i64 g0] 3)).drew := ((Below.refl _ _).alloc (Nat.le_refl _) _).drew
 have hTa := hTV.below hgVa
 have hqn : ((V.alloc (.cells #[.int .i64 g0] 3)).drew).heap[V.heap.size]? = some (.cells #[.int .i64 g0] 3 (0, 0)) := blk_new V _
 obtain ⟨so, Bo, ko, co, hA, hz, hge, ⟨cells, hty⟩, hf⟩ := odd4 hTa HSM.out n v _ (by omega) (by rw [HLT.out.so]; omega) g0 hmem hqn
 have hA' : J4 = some ⟨so, 0, none⟩ := hA
 have hgc0 := hgc V (Below.refl _ _)
 rw [add0] at hgc0
 have HGC : Hid (∀ W, Below V.heap.size V W → W.cell? ⟨gb, 0, none⟩ = some (.int .i64 g0)) := Lib.hid (fun W g => by have := hgc W g; rwa [add0] at this)
 have HBV : Hid (∀ W, Below V.heap.size V W → W.heap[tb]? = some (.cells #[.slice J0 cc j0, .slice J1 cc j1, .slice J2 n j2, .slice J3 n j3, .slice J4 n j4, .slice J5 n j5] 46 (0, 0))) := Lib.hid (fun W g => (g.block _ (blk_lt HB.out)).trans HB.out)
 have hBa := HBV.out _ hgVa
 have HVa := Lib.hid (HV.out.trans (hgVa.mono HV.out.size))
 have hne : tb ≠ so := blk_ne hBa hty (by decide)
 rw [HLT.out.cells] at hf
 have HZ := Lib.hid hz
 have HTY := Lib.hid hty
 have HF := Lib.hid hf
 have HBA := Lib.hid hBa
 have HGVA := Lib.hid hgVa
 have HHGE := Lib.hid (Nat.le_trans hbge hge)
 have HNE := Lib.hid hne
 have hB0 : J0 = some ⟨gb, 0, none⟩ := hgb
 subst hB0 hA'
 clear hTV hCV hga hgc hgc0 hmem hg0 hTa hqn hA hz hge hty hf hBa hgVa hne hgb hbge
 obtain ⟨⟨m0, ml, xl⟩, x0, x1⟩ := HCF.out V HV.out
 have t0 := (blk_cell HB.out 0).trans rfl
 have t1 := (blk_cell HB.out 1).trans rfl
 have t2 := (blk_cell HB.out 2).trans rfl
 have t3 := (blk_cell HB.out 3).trans rfl
 have t4 := (blk_cell HB.out 4).trans rfl
 have t5 := (blk_cell HB.out 5).trans rfl
 have tl := blk_lt HB.out
 go_upto_region 17 with fail
 clear m0 ml xl x0 x1 t0 t1 t2 t3 t4 t5 tl
 refine start_ (n := 10) (S := fun w' => w'.cell? ⟨tb, 4, none⟩ = some (.slice (some ⟨so, 0, none⟩) n j4) ∧ w'.cell? ⟨tb, 0, none⟩ = some (.slice (some ⟨gb, 0, none⟩) cc j0) ∧ w'.cell? ⟨gb, 0, none⟩ = some (.int .i64 g0)) (ds := [9]) (bA_ 10 0) (by kernel_rfl) rfl rfl ⟨((blk_cell (HBV.out _ (Below.refl V.heap.size V).drew) 4).trans rfl), ((blk_cell (HBV.out _ (Below.refl V.heap.size V).drew) 0).trans rfl), (HGC.out _ (Below.refl V.heap.size V).drew)⟩ (fun hHeld => ?_)
 refine p2_ 0 95 (bA_ 10 1) ?_
 refine p2_ 2 97 (bA_ 10 5) ?_
 refine p2_ 3 98 (bA_ 10 13) ?_
 refine t2_ 1 96 (bA_ 10 15) hHeld ?_ (hy := by rintro w' ⟨s0, s1, s2⟩; go_simp; with_reducible rfl)
 refine t2_ 4 99 (bA_ 10 31) hHeld ?_ (hy := by rintro w' ⟨s0, s1, s2⟩; go_simp; with_reducible rfl)
 refine p2_ 5 100 (bA_ 10 63) ?_
 refine t2_ 6 101 (bA_ 10 127) hHeld ?_ (hy := by rintro w' ⟨s0, s1, s2⟩; go_simp; with_reducible rfl)
 refine o2_ 7 102 (bA_ 10 255) (fun K hK => ?_)
 refine value_ (w1 := ?_) (v := ?_) (by rfl) rfl ?_ ?_
 rotate_left 2
 ·go_simp
  constructor
  ·rfl
  ·rfl
 generalize (V.alloc (.cells #[.int .i64 g0] 3)).drew = Va at *
 generalize V.heap.size = q at *
 have xf : Va.frozen? ⟨so, v, none⟩ = false := blk_frozen HTY.out v
 have xz := HZ.out
 have xs := blk_lt HTY.out
 refine hK.out _ _ ⟨((blk_cell (HBV.out _ HGVA.out) 4).trans rfl), ((blk_cell (HBV.out _ HGVA.out) 0).trans rfl), (HGC.out _ HGVA.out)⟩ (fun hHeld => ?_)
 clear hK K
 refine n2_ 102 ?_
 refine p2_ 8 103 (bA_ 10 511) ?_
 refine last_ (i := 9) (N := none) (bA_ 10 1023) rfl rfl (by kernel_rfl) (by decide) (fun K hK => ?_)
 refine skip_ (w1 := ?_) (by rfl) rfl ?_ ?_
 rotate_left
 ·go_simp
  rfl
 refine hK.out _ _ ?_
 clear hK K
 refine done_ (by kernel_rfl) ?_
 have HVn := Lib.hid (HVa.out.setCell (p := ⟨so, v, none⟩) HHGE.out (.slice (some ⟨q, 0, none⟩) 1 1))
 have HBn := Lib.hid (blk_far HBA.out (p := ⟨so, v, none⟩) HNE.out (.slice (some ⟨q, 0, none⟩) 1 1))
 clear HBS HB HV HVa HBA HGVA HHGE HNE HZ HTY HBV HGC hHeld xf xz xs
 generalize Va.setCell ⟨so, v, none⟩ (.slice (some ⟨q, 0, none⟩) 1 1) = V1 at *
 have HC1 := Lib.hid (HF.out V1 (Below.refl _ _))
 obtain ⟨⟨m0, ml, xl⟩, x0, x1⟩ := HCF.out V1 HVn.out
 have t0 := (blk_cell HBn.out 0).trans rfl
 have t1 := (blk_cell HBn.out 1).trans rfl
 have t2 := (blk_cell HBn.out 2).trans rfl
 have t3 := (blk_cell HBn.out 3).trans rfl
 have t4 := (blk_cell HBn.out 4).trans rfl
 have t5 := (blk_cell HBn.out 5).trans rfl
 have tl := blk_lt HBn.out
 go_upto_region 19 with (first | (go_at_call 24; refine HC1.out.mono ?_; rintro e V2 ⟨rfl, g⟩; have HV2 := Lib.hid (HVn.out.trans (g.mono HVn.out.size)); have HB2 := Lib.hid ((g.block _ (blk_lt HBn.out)).trans HBn.out); clear g))
 clear m0 ml xl x0 x1 t0 t1 t2 t3 t4 t5 tl HF HC1 HVn HBn
 have HR2 := Lib.hid (HRB.out V2 HV2.out)
 obtain ⟨⟨m0, ml, xl⟩, x0, x1⟩ := HCF.out V2 HV2.out
 have t0 := (blk_cell HB2.out 0).trans rfl
 have t1 := (blk_cell HB2.out 1).trans rfl
 have t2 := (blk_cell HB2.out 2).trans rfl
 have t3 := (blk_cell HB2.out 3).trans rfl
 have t4 := (blk_cell HB2.out 4).trans rfl
 have t5 := (blk_cell HB2.out 5).trans rfl
 have tl := blk_lt HB2.out
 go_upto_region 20 with (first | (go_at_call 23; refine HR2.out.mono ?_; rintro e V3 ⟨Q0, r0, Q1, r1, Q2, r2, Q3, r3, Q4, r4, Q5, r5, rfl, hT, g⟩; have HT3 := Lib.hid hT; have HV3 := Lib.hid (HV2.out.trans (g.mono HV2.out.size)); have HB3 := Lib.hid ((g.block _ (blk_lt HB2.out)).trans HB2.out); have HS3 := Lib.hid HV2.out.size; clear hT g m0 ml xl x0 x1 t0 t1 t2 t3 t4 t5 tl; have t0 := (blk_cell HB3.out 0).trans rfl; have t1 := (blk_cell HB3.out 1).trans rfl; have t2 := (blk_cell HB3.out 2).trans rfl; have t3 := (blk_cell HB3.out 3).trans rfl; have t4 := (blk_cell HB3.out 4).trans rfl; have t5 := (blk_cell HB3.out 5).trans rfl; have tl := blk_lt HB3.out; have xf : ∀ j, V3.frozen? ⟨tb, j, none⟩ = false := fun j => blk_frozen HB3.out j))
 have hbx := tab_box HLT.out HT3.out HB3.out HV3.out HGE.out
 simp only at hbx
 have HBS : Hid (∃ b, W5.heap.size ≤ b ∧ TabR _ b (.agg (TabAt.cells ⟨Q0, r0, Q1, r1, Q2, r2, Q3, r3, Q4, r4, Q5, r5⟩ T)) T) := Lib.hid ⟨_, HS3.out, hbx.1⟩
 have HB := Lib.hid hbx.2.1
 have HV := Lib.hid hbx.2.2
 clear hbx HT3 HV3 HB3 HS3 HR2 HV2 HB2 t0 t1 t2 t3 t4 t5 tl xf
 generalize (((((V3.setCell ⟨tb, 0, none⟩ (.slice Q0 cc r0)).setCell ⟨tb, 1, none⟩ (.slice Q1 cc r1)).setCell ⟨tb, 2, none⟩ (.slice Q2 n r2)).setCell ⟨tb, 3, none⟩ (.slice Q3 n r3)).setCell ⟨tb, 4, none⟩ (.slice Q4 n r4)).setCell ⟨tb, 5, none⟩ (.slice Q5 n r5) = V at *
 obtain ⟨b, hbge, hTV⟩ := HBS.out
 have hCV := tabC_of hTV
 obtain ⟨ga, hga, hgc⟩ := laterI hCV.g 0 (by rw [HLT.out.g]; omega)
 obtain ⟨gb, hgb, _⟩ : ∃ g, Q0 = some ⟨g, 0, none⟩ ∧ True := by
  obtain ⟨vG, _, _, _, _, _, e, k1, _⟩ := hTV
  simp [TabAt.cells] at e
  obtain ⟨rfl, _⟩ := e
  obtain ⟨g, h1, _⟩ := R_headN k1 (by rw [HLT.out.g]; omega)
  exact ⟨g, h1, trivial⟩
 have hga' : Q0 = some ga := hga
 rw [hgb] at hga'
 cases hga'
 have hmem : rd T.g ((0 : Nat) : Int) ∈ T.g := by rw [rd_get (by rw [HLT.out.g]; omega)]; exact List.getElem_mem _
 obtain ⟨g0, hg0⟩ : ∃ g0, rd T.g ((0 : Nat) : Int) = g0 := ⟨_, rfl⟩
 rw [hg0] at hgc hmem
 have hgVa : Below V.heap.size V (V.alloc (.cells #[.int .i64 g0, .int .i64 (-1)] 37)).drew := ((Below.refl _ _).alloc (Nat.le_refl _) _).drew
 have hTa := hTV.below hgVa
 have hqn : ((V.alloc (.cells #[.int .i64 g0, .int .i64 (-1)] 37)).drew).heap[V.heap.size]? = some (.cells #[.int .i64 g0, .int .i64 (-1)] 37 (0, 0)) := blk_new V _
 obtain ⟨so, Bo, ko, co, hA, hz, hge, ⟨cells, hty⟩, hf⟩ := odd5 hTa HSM.out n v _ (by omega) (by rw [HLT.out.inn]; omega) g0 hqn
 have hA' : Q3 = some ⟨so, 0, none⟩ := hA
 have hgc0 := hgc V (Below.refl _ _)
 rw [add0] at hgc0
 have HGC : Hid (∀ W, Below V.heap.size V W → W.cell? ⟨gb, 0, none⟩ = some (.int .i64 g0)) := Lib.hid (fun W g => by have := hgc W g; rwa [add0] at this)
 have HBV : Hid (∀ W, Below V.heap.size V W → W.heap[tb]? = some (.cells #[.slice Q0 cc r0, .slice Q1 cc r1, .slice Q2 n r2, .slice Q3 n r3, .slice Q4 n r4, .slice Q5 n r5] 46 (0, 0))) := Lib.hid (fun W g => (g.block _ (blk_lt HB.out)).trans HB.out)
 have hBa := HBV.out _ hgVa
 have HVa := Lib.hid (HV.out.trans (hgVa.mono HV.out.size))
 have hne : tb ≠ so := blk_ne hBa hty (by decide)
 rw [HLT.out.cells] at hf
 have HZ := Lib.hid hz
 have HTY := Lib.hid hty
 have HF := Lib.hid hf
 have HBA := Lib.hid hBa
 have HGVA := Lib.hid hgVa
 have HHGE := Lib.hid (Nat.le_trans hbge hge)
 have HNE := Lib.hid hne
 have hB0 : Q0 = some ⟨gb, 0, none⟩ := hgb
 subst hB0 hA'
 clear hTV hCV hga hgc hgc0 hmem hg0 hTa hqn hA hz hge hty hf hBa hgVa hne hgb hbge
 obtain ⟨⟨m0, ml, xl⟩, x0, x1⟩ := HCF.out V HV.out
 have t0 := (blk_cell HB.out 0).trans rfl
 have t1 := (blk_cell HB.out 1).trans rfl
 have t2 := (blk_cell HB.out 2).trans rfl
 have t3 := (blk_cell HB.out 3).trans rfl
 have t4 := (blk_cell HB.out 4).trans rfl
 have t5 := (blk_cell HB.out 5).trans rfl
 have tl := blk_lt HB.out
 go_upto_region 20 with fail
 clear m0 ml xl x0 x1 t0 t1 t2 t3 t4 t5 tl
 refine start_ (n := 11) (S := fun w' => w'.cell? ⟨tb, 3, none⟩ = some (.slice (some ⟨so, 0, none⟩) n r3) ∧ w'.cell? ⟨tb, 0, none⟩ = some (.slice (some ⟨gb, 0, none⟩) cc r0) ∧ w'.cell? ⟨gb, 0, none⟩ = some (.int .i64 g0)) (ds := [10]) (bA_ 11 0) (by kernel_rfl) rfl rfl ⟨((blk_cell (HBV.out _ (Below.refl V.heap.size V).drew) 3).trans rfl), ((blk_cell (HBV.out _ (Below.refl V.heap.size V).drew) 0).trans rfl), (HGC.out _ (Below.refl V.heap.size V).drew)⟩ (fun hHeld => ?_)
 refine p2_ 0 111 (bA_ 11 1) ?_
 refine p2_ 2 113 (bA_ 11 5) ?_
 refine p2_ 3 114 (bA_ 11 13) ?_
 refine t2_ 1 112 (bA_ 11 15) hHeld ?_ (hy := by rintro w' ⟨s0, s1, s2⟩; go_simp; with_reducible rfl)
 refine t2_ 4 115 (bA_ 11 31) hHeld ?_ (hy := by rintro w' ⟨s0, s1, s2⟩; go_simp; with_reducible rfl)
 refine p2_ 5 116 (bA_ 11 63) ?_
 refine t2_ 6 117 (bA_ 11 127) hHeld ?_ (hy := by rintro w' ⟨s0, s1, s2⟩; go_simp; with_reducible rfl)
 refine p2_ 7 118 (bA_ 11 255) ?_
 refine o2_ 8 119 (bA_ 11 511) (fun K hK => ?_)
 refine value_ (w1 := ?_) (v := ?_) (by rfl) rfl ?_ ?_
 rotate_left 2
 ·go_simp
  constructor
  ·rfl
  ·rfl
 generalize (V.alloc (.cells #[.int .i64 g0, .int .i64 (-1)] 37)).drew = Va at *
 generalize V.heap.size = q at *
 have xf : Va.frozen? ⟨so, v, none⟩ = false := blk_frozen HTY.out v
 have xz := HZ.out
 have xs := blk_lt HTY.out
 refine hK.out _ _ ⟨((blk_cell (HBV.out _ HGVA.out) 3).trans rfl), ((blk_cell (HBV.out _ HGVA.out) 0).trans rfl), (HGC.out _ HGVA.out)⟩ (fun hHeld => ?_)
 clear hK K
 refine n2_ 119 ?_
 refine p2_ 9 120 (bA_ 11 1023) ?_
 refine last_ (i := 10) (N := none) (bA_ 11 2047) rfl rfl (by kernel_rfl) (by decide) (fun K hK => ?_)
 refine skip_ (w1 := ?_) (by rfl) rfl ?_ ?_
 rotate_left
 ·go_simp
  rfl
 refine hK.out _ _ ?_
 clear hK K
 refine done_ (by kernel_rfl) ?_
 have HVn := Lib.hid (HVa.out.setCell (p := ⟨so, v, none⟩) HHGE.out (.slice (some ⟨q, 0, none⟩) 1 1))
 have HBn := Lib.hid (blk_far HBA.out (p := ⟨so, v, none⟩) HNE.out (.slice (some ⟨q, 0, none⟩) 1 1))
 clear HBS HB HV HVa HBA HGVA HHGE HNE HZ HTY HBV HGC hHeld xf xz xs
 generalize Va.setCell ⟨so, v, none⟩ (.slice (some ⟨q, 0, none⟩) 1 1) = V1 at *
 have HC1 := Lib.hid (HF.out V1 (Below.refl _ _))
 obtain ⟨⟨m0, ml, xl⟩, x0, x1⟩ := HCF.out V1 HVn.out
 have t0 := (blk_cell HBn.out 0).trans rfl
 have t1 := (blk_cell HBn.out 1).trans rfl
 have t2 := (blk_cell HBn.out 2).trans rfl
 have t3 := (blk_cell HBn.out 3).trans rfl
 have t4 := (blk_cell HBn.out 4).trans rfl
 have t5 := (blk_cell HBn.out 5).trans rfl
 have tl := blk_lt HBn.out
 go_upto_region 22 with (first | (go_at_call 24; refine HC1.out.mono ?_; rintro e V2 ⟨rfl, g⟩; have HV2 := Lib.hid (HVn.out.trans (g.mono HVn.out.size)); have HB2 := Lib.hid ((g.block _ (blk_lt HBn.out)).trans HBn.out); clear g))
 clear m0 ml xl x0 x1 t0 t1 t2 t3 t4 t5 tl HF HC1 HVn HBn
 have HKW := Lib.hid (HKN.out V2)
 go_wp2_with (first | (go_at_call 22; refine HKW.out.mono ?_; rintro e w9 ⟨rfl, g9⟩; have HG9 := Lib.hid g9; clear g9))
 go_ret
 exact ⟨rfl, HG5.out.trans ((HV2.out.trans (HG9.out.mono HV2.out.size)).mono HG5.out.size)⟩
end Go.Proofs.YtfkejflmhidnaaaGreat.PAll
