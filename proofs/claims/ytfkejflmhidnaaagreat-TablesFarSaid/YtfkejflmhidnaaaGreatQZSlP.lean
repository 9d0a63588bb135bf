import Derived.Test.YtfkejflmhidnaaaGreatQZByB
import Derived.Test.YtfkejflmhidnaaaGreatQZPrB
set_option linter.all false
namespace Go.Proofs.YtfkejflmhidnaaaGreat.PAll
open RowKit YtfkejflmhidnaaaGreatW.PrintWords YtfkejflmhidnaaaGreatW.PrintLast YtfkejflmhidnaaaGreatW.PrintMore
open Hp hiding Good
section
variable {n : Nat} {wm : Int} {h : HierP}
theorem so_at (k : Int) {v : Nat} (hv : v < n) : rd_L5 (buildT n h k).so (v : Int) = subQ n h v k false := by
 show rd_L5 ((List.range n).map (fun v => subQ n h v k false)) (v : Int) = _
 rw [rdL5_get (by simpa using hv)]; simp
theorem si_at (k : Int) {v : Nat} (hv : v < n) : rd_L5 (buildT n h k).si (v : Int) = subQ n h v k true := by
 show rd_L5 ((List.range n).map (fun v => subQ n h v k true)) (v : Int) = _
 rw [rdL5_get (by simpa using hv)]; simp
theorem out_at (k : Int) {v : Nat} (hv : v < n) : (buildT n h k).out.getD v [] = outP n h v (lowAt n k) false := by
 show ((List.range n).map (fun v => outP n h v (lowAt n k) false)).getD v [] = _
 simp [List.getD, hv]
theorem inn_at (k : Int) {v : Nat} (hv : v < n) : (buildT n h k).inn.getD v [] = outP n h v (lowAt n k) true := by
 show ((List.range n).map (fun v => outP n h v (lowAt n k) true)).getD v [] = _
 simp [List.getD, hv]
theorem dOf_at (k : Int) {a b : S37} (ha : a.f0 ∈ greatP n h k) (hb : b.f0 ∈ greatP n h k) : dOf (buildT n h k) a b = farP n h a.f0 b.f0 := by
 obtain ⟨i, e1, h1, r1⟩ := idxP_in ha
 obtain ⟨j, e2, h2, r2⟩ := idxP_in hb
 unfold dOf
 have e1' : idxP (buildT n h k).g a.f0 = i := e1
 have e2' : idxP (buildT n h k).g b.f0 = j := e2
 rw [e1', e2']
 have hlen : (tableP n h (greatP n h k) (greatP n h k)).length = (greatP n h k).length := by simp [tableP]
 have hrow : rd_L5 (buildT n h k).far (i : Int) = (greatP n h k).map (fun t => farP n h (greatP n h k)[i] t) := by
  show rd_L5 (tableP n h (greatP n h k) (greatP n h k)) (i : Int) = _
  rw [rdL5_get (by omega)]; simp [tableP]
 rw [hrow, rd_get (by simpa using h2), List.getElem_map]
 rw [rd_get h1] at r1
 rw [rd_get h2] at r2
 rw [r1, r2]
theorem self_sub (hok : HOk n wm h) (k : Int) {v : Nat} (hv : v < n) (hl : rd h.rank (v : Int) < lowAt n k) (back : Bool) : (v : Int) ∈ subQ n h v k back := by
 unfold subQ lowP
 exact List.mem_map.2 ⟨_, rowsP_has hv (climb_self hok v hv _ back) (by simpa using hl), rfl⟩
theorem self_great (hok : HOk n wm h) (hn : n ≤ 20) (G : GrOk n h) (k : Int) {v : Nat} (hv : v < n) (hg : (v : Int) ∈ greatP n h k) : byP (buildT n h k) v v = (0, false) := by
 obtain ⟨u, hu, e, hr⟩ := (G.mem k _).1 hg
 obtain rfl : u = v := by omega
 unfold byP
 rw [so_at k hv, si_at k hv, out_at k hv, inn_at k hv, sub_top false hv hr, sub_top true hv hr, out_top false hv hr, out_top true hv hr]
 have h0 : dOf (buildT n h k) ⟨(u : Int), 0⟩ ⟨(u : Int), 0⟩ = 0 := by rw [dOf_at k hg hg]; exact far_self hok (by omega) u hv
 have h1 : sumE (buildT n h k) ⟨(u : Int), 0⟩ ⟨(u : Int), 0⟩ = some 0 := by unfold sumE; rw [h0]; rfl
 have h2 : sumsP (buildT n h k) [⟨(u : Int), 0⟩] [⟨(u : Int), 0⟩] = [0] := by simp [sumsP, inS, h1]
 rw [h2]
 rfl
theorem self_low (hok : HOk n wm h) (G : GrOk n h) (k : Int) {v : Nat} (hv : v < n) (hg : (v : Int) ∉ greatP n h k) : byP (buildT n h k) v v = (-1, true) := by
 have hr : rd h.rank (v : Int) < lowAt n k := by
  apply Classical.byContradiction
  intro hc
  exact hg ((G.mem k _).2 ⟨v, hv, rfl, by omega⟩)
 unfold byP
 rw [if_pos]
 rw [so_at k hv, si_at k hv]
 unfold localP
 rw [List.any_eq_true]
 exact ⟨_, self_sub hok k hv hr false, by simpa using self_sub hok k hv hr true⟩
end
def OfPost9U (n : Nat) (A : List S85) (W : World) (e : Ending) (w' : World) : Prop := ∃ S1 S2 : Value, e = .returned (.agg #[S1, S2]) ∧ Below W.heap.size W w' ∧ ∀ W', Below w'.heap.size w' W' → Calls Tryz.prog 12 #[.agg #[S1, S2]] W' (NewPostT n A W')
theorem of9_newU (W : World) (n : Nat) (A : List S85) (Aa : Option Addr) (ca : Nat) (hC : Kd.C k85 W Aa A.length A) (hca : A.length ≤ ca) (hok : MapOk n A) :
  Calls Tryz.prog 13 #[.agg #[.int .i64 n, .slice Aa A.length ca]] W (OfPost9U n A W) := by
 refine (of9_walk W n A Aa ca hC hca hok).mono ?_
 rintro e W4 ⟨vr, vw, t, rk, H, rfl, hBI, hRr, hRw, g4⟩
 obtain ⟨rA, rc, hvr, hrc, hrC⟩ := Kd.R_reads hRr
 obtain ⟨wA, wc, hvw, hwc', hwC⟩ := Kd.R_reads hRw
 subst hvr hvw
 have hrl : rk.length = n := hBI.rl
 rw [hrl] at hrC hrc ⊢
 refine ⟨_, _, rfl, g4, fun W' g' => (hnew_walk W' n rk H (hBI.vh hok.n1) rA wA rc wc (Kd.C_below hrC g') (Kd.C_below hwC g')).mono ?_⟩
 rintro e W5 ⟨xb, x, rfl, hHR, hX, g5⟩
 exact ⟨xb, _, rfl, hHR, hBI.mh hok.n1 x, grok_new (hBI.vh hok.n1) x hX, g5⟩
theorem TabR.lower {w : World} {b b' : Nat} {v : Value} {t : TabP} (h : TabR w b v t) (hb : b' ≤ b) : TabR w b' v t := by
 obtain ⟨vG, vF, vO, vI, vS, vT, e, h1, h2, h3, h4, h5, h6⟩ := h
 exact ⟨vG, vF, vO, vI, vS, vT, e, Kd.R_lower h1 hb, Kd.R_lower h2 hb, Kd.R_lower h3 hb, Kd.R_lower h4 hb, Kd.R_lower h5 hb, Kd.R_lower h6 hb⟩
theorem TabR.below {w w' : World} {b : Nat} {v : Value} {t : TabP} (h : TabR w b v t) (g : Below w.heap.size w w') : TabR w' b v t := by
 obtain ⟨vG, vF, vO, vI, vS, vT, e, h1, h2, h3, h4, h5, h6⟩ := h
 exact ⟨vG, vF, vO, vI, vS, vT, e, Kd.R_below h1 g, Kd.R_below h2 g, Kd.R_below h3 g, Kd.R_below h4 g, Kd.R_below h5 g, Kd.R_below h6 g⟩
theorem TabR.set {w : World} {b : Nat} {v : Value} {t : TabP} (h : TabR w b v t) {gt : Nat} {cells : Array Value} (hb : w.heap[gt]? = some (.cells cells 46 (0, 0))) (j : Nat) (u : Value) : TabR (w.setCell ⟨gt, j, none⟩ u) b v t := by
 obtain ⟨vG, vF, vO, vI, vS, vT, e, h1, h2, h3, h4, h5, h6⟩ := h
 exact ⟨vG, vF, vO, vI, vS, vT, e, Kd.R_set h1 hb (by decide) j u, Kd.R_set h2 hb (by decide) j u, Kd.R_set h3 hb (by decide) j u, Kd.R_set h4 hb (by decide) j u, Kd.R_set h5 hb (by decide) j u, Kd.R_set h6 hb (by decide) j u⟩
theorem TabR.box {w w0 : World} {b : Nat} {a : TabAt} {t : TabP} (h : TabR w b (.agg (a.cells t)) t) {gt : Nat} {cells : Array Value} (hz : cells.size = 6) (hb : w.heap[gt]? = some (.cells cells 46 (0, 0))) (hg : Below w0.heap.size w0 w) (hl : w0.heap.size ≤ gt) :
  let W := (((((w.setCell ⟨gt, 0, none⟩ (.slice a.A0 t.g.length a.c0)).setCell ⟨gt, 1, none⟩ (.slice a.A1 t.far.length a.c1)).setCell ⟨gt, 2, none⟩ (.slice a.A2 t.out.length a.c2)).setCell ⟨gt, 3, none⟩ (.slice a.A3 t.inn.length a.c3)).setCell ⟨gt, 4, none⟩ (.slice a.A4 t.so.length a.c4)).setCell ⟨gt, 5, none⟩ (.slice a.A5 t.si.length a.c5)
  TabC W a t ∧ W.heap[gt]? = some (.cells (a.cells t) 46 (0, 0)) ∧ Below w0.heap.size w0 W := by
 obtain ⟨l⟩ := cells
 match l, hz with
 | [x0, x1, x2, x3, x4, x5], _ =>
  have p0 := blk_put hb 0 (.slice a.A0 t.g.length a.c0) (cs' := #[.slice a.A0 t.g.length a.c0, x1, x2, x3, x4, x5]) rfl
  have p1 := blk_put p0 1 (.slice a.A1 t.far.length a.c1) (cs' := #[.slice a.A0 t.g.length a.c0, .slice a.A1 t.far.length a.c1, x2, x3, x4, x5]) rfl
  have p2 := blk_put p1 2 (.slice a.A2 t.out.length a.c2) (cs' := #[.slice a.A0 t.g.length a.c0, .slice a.A1 t.far.length a.c1, .slice a.A2 t.out.length a.c2, x3, x4, x5]) rfl
  have p3 := blk_put p2 3 (.slice a.A3 t.inn.length a.c3) (cs' := #[.slice a.A0 t.g.length a.c0, .slice a.A1 t.far.length a.c1, .slice a.A2 t.out.length a.c2, .slice a.A3 t.inn.length a.c3, x4, x5]) rfl
  have p4 := blk_put p3 4 (.slice a.A4 t.so.length a.c4) (cs' := #[.slice a.A0 t.g.length a.c0, .slice a.A1 t.far.length a.c1, .slice a.A2 t.out.length a.c2, .slice a.A3 t.inn.length a.c3, .slice a.A4 t.so.length a.c4, x5]) rfl
  have p5 := blk_put p4 5 (.slice a.A5 t.si.length a.c5) (cs' := a.cells t) rfl
  have hT := (((((h.set hb 0 (.slice a.A0 t.g.length a.c0)).set p0 1 (.slice a.A1 t.far.length a.c1)).set p1 2 (.slice a.A2 t.out.length a.c2)).set p2 3 (.slice a.A3 t.inn.length a.c3)).set p3 4 (.slice a.A4 t.so.length a.c4)).set p4 5 (.slice a.A5 t.si.length a.c5)
  obtain ⟨a', e, hC⟩ := hT.reads
  obtain ⟨A0, c0, A1, c1, A2, c2, A3, c3, A4, c4, A5, c5⟩ := a
  obtain ⟨A0', c0', A1', c1', A2', c2', A3', c3', A4', c4', A5', c5'⟩ := a'
  simp [TabAt.cells] at e
  obtain ⟨⟨rfl, rfl⟩, ⟨rfl, rfl⟩, ⟨rfl, rfl⟩, ⟨rfl, rfl⟩, ⟨rfl, rfl⟩, ⟨rfl, rfl⟩⟩ := e
  exact ⟨hC, p5, (((((hg.setCell (p := ⟨gt, 0, none⟩) hl _).setCell (p := ⟨gt, 1, none⟩) hl _).setCell (p := ⟨gt, 2, none⟩) hl _).setCell (p := ⟨gt, 3, none⟩) hl _).setCell (p := ⟨gt, 4, none⟩) hl _).setCell (p := ⟨gt, 5, none⟩) hl _⟩
end Go.Proofs.YtfkejflmhidnaaaGreat.PAll
