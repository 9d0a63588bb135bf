import Derived.Test.YtfkejflmhidnaaaGreatQZOdP
import Derived.Test.YtfkejflmhidnaaaGreatQZEqA
set_option linter.all false
namespace Go.Proofs.YtfkejflmhidnaaaGreat.PAll
open RowKit YtfkejflmhidnaaaGreatW.PrintWords YtfkejflmhidnaaaGreatW.PrintLast YtfkejflmhidnaaaGreatW.PrintMore
open Hp hiding Good
theorem add0 (g i : Nat) : (⟨g, 0, none⟩ : Addr).add i = ⟨g, i, none⟩ := by
 unfold Addr.add
 split
 ·rename_i h; subst h; rfl
 ·simp
theorem R_headN {α : Type} {d : Kd α} {e : Nat} {w : World} {b : Nat} {ok : Nat → Prop} {A : Option Addr} {n c : Nat} {xs : List α} (h : Kd.R d e w b ok (.slice A n c) xs) (hn : 0 < xs.length) : ∃ g, A = some ⟨g, 0, none⟩ ∧ b ≤ g ∧ ∃ cells, w.heap[g]? = some (.cells cells e (0, 0)) := by
 obtain ⟨_, inner, ho, _⟩ := h
 rcases ho.2 with ⟨_, h0⟩ | ⟨g, cap, cur, e1, hg, hh, _⟩
 ·omega
 ·cases e1
  exact ⟨g, rfl, hg, _, hh⟩
theorem C_take {α : Type} {d : Kd α} {w : World} {A : Option Addr} {n : Nat} {xs : List α} (h : d.C w A n xs) (m : Nat) (hm : m ≤ n) : d.C w A m (xs.take m) := by
 obtain ⟨hl, hx, hc⟩ := h
 refine ⟨by rw [List.length_take]; omega, by omega, fun h0 => ?_⟩
 obtain ⟨ad, hA, hcs⟩ := hc (by omega)
 refine ⟨ad, hA, fun j p hj => hcs j p ?_⟩
 rw [List.getElem?_take] at hj
 split at hj
 ·exact hj
 ·cases hj
def Fells (n : Int) (cs : Array Value) (W : World) : Prop := ∀ V, Below W.heap.size W V → Calls Tryz.prog 24 #[.int .i64 n, .agg cs] V fun r w' => r = .returned (.int .i64 2) ∧ Below V.heap.size V w'
theorem fells_of {n : Int} {a : TabAt} {t : TabP} {W : World} (hC : TabC W a t) (hS : TabSm t) (h : checkP n t = 2) : Fells n (a.cells t) W := fun V g => by
 have := tcheck_walk V a t n (hC.below g) hS
 rw [h] at this
 exact this
section
variable {W : World} {b : Nat} {a : TabAt} {T : TabP}
theorem odd1 (hT : TabR W b (.agg (a.cells T)) T) (hC : TabC W a T) (hS : TabSm T) (n c0 : Nat) (hn : n ≤ 20) (hc : c0 < T.g.length) :
  ∃ g z, a.A0 = some ⟨g, 0, none⟩ ∧ W.cell? ⟨g, c0, none⟩ = some (.int .i64 z) ∧ b ≤ g ∧ (∃ cells, W.heap[g]? = some (.cells cells 3 (0, 0))) ∧ Fells n (a.cells T) (W.setCell ⟨g, c0, none⟩ (.int .i64 n)) := by
 have hT' := hT
 obtain ⟨vG, vF, vO, vI, vS, vT, e, h1, _⟩ := hT'
 simp [TabAt.cells] at e
 obtain ⟨rfl, _⟩ := e
 obtain ⟨g, hA, hb, hty⟩ := R_headN h1 (by omega)
 obtain ⟨ad, hA', hx⟩ := laterI hC.g c0 hc
 rw [hA] at hA'
 cases hA'
 have x := hx W (Below.refl _ _)
 rw [add0] at x
 refine ⟨g, _, hA, x, hb, hty, ?_⟩
 obtain ⟨t', hC', hsh⟩ := hC.int x n
 have hl : c0 < t'.g.length := by rw [hsh.g]; exact hc
 obtain ⟨ad2, hA2, hx2⟩ := laterI hC'.g c0 hl
 rw [hA] at hA2
 cases hA2
 have x2 := hx2 _ (Below.refl _ _)
 rw [add0, World.cell?_setCell_same _ _ _ x] at x2
 have hz : rd t'.g (c0 : Int) = n := by
  have := Option.some.inj x2
  injection this with _ h
  exact h.symm
 rw [← hsh.cells a]
 refine fells_of hC' (hsh.sm hS) (chk_g (by omega) (risingI_at (List.mem_singleton.2 rfl) hl ?_))
 rw [hz]
 simp [inP]
theorem odd2 (hT : TabR W b (.agg (a.cells T)) T) (hC : TabC W a T) (hS : TabSm T) (n c0 : Nat) (hn : n ≤ 20) (hc : c0 < T.far.length) (hr : 0 < (rd_L5 T.far (c0 : Int)).length) :
  ∃ fo fi fc z, a.A1 = some ⟨fo, 0, none⟩ ∧ W.cell? ⟨fo, c0, none⟩ = some (.slice (some ⟨fi, 0, none⟩) (rd_L5 T.far (c0 : Int)).length fc) ∧ W.cell? ⟨fi, 0, none⟩ = some (.int .i64 z) ∧ b ≤ fi ∧ (∃ cells, W.heap[fi]? = some (.cells cells 3 (0, 0))) ∧ Fells n (a.cells T) (W.setCell ⟨fi, 0, none⟩ (.int .i64 (-2))) := by
 have hT' := hT
 obtain ⟨vG, vF, vO, vI, vS, vT, e, _, h2, _⟩ := hT'
 simp [TabAt.cells] at e
 obtain ⟨_, rfl, _⟩ := e
 obtain ⟨fo, hA, _, _⟩ := R_headN h2 (by omega)
 rw [hA] at h2
 obtain ⟨cs, hcl, ⟨v, rfl, hv⟩, hcell⟩ := Kd.R_get h2 [] (c0 : Int) (by omega) (by omega)
 have hx := hcell 0 _ rfl
 obtain ⟨fA, fc, rfl, _, hCi⟩ := Kd.R_reads hv
 rw [Int.toNat_natCast] at hx
 change W.cell? ((⟨fo, 0, none⟩ : Addr).add (c0 * 1 + 0)) = _ at hx
 rw [Nat.mul_one, Nat.add_zero, add0] at hx
 have ed : T.far.getD c0 [] = rd_L5 T.far (c0 : Int) := by simp [rd_L5]
 rw [Int.toNat_natCast, ed] at hv hCi
 rw [ed] at hx
 obtain ⟨fi, rfl, hb, hty⟩ := R_headN hv hr
 obtain ⟨ad, hA', hy⟩ := laterI hCi 0 hr
 cases hA'
 have y := hy W (Below.refl _ _)
 rw [add0] at y
 refine ⟨fo, fi, fc, _, hA, hx, y, hb, hty, ?_⟩
 obtain ⟨t', hC', hsh⟩ := hC.int y (-2)
 have hl : c0 < t'.far.length := by rw [hsh.far]; exact hc
 obtain ⟨ad2, B2, k2, hA2, hx2⟩ := laterII hC'.far c0 hl
 rw [hA] at hA2
 cases hA2
 obtain ⟨x2, hk2, hC2⟩ := hx2 _ (Below.refl _ _)
 have hne : (⟨fi, 0, none⟩ : Addr) ≠ ⟨fo, c0, none⟩ := fun e => by rw [e, hx] at y; cases y
 rw [add0, World.cell?_setCell_other _ _ _ _ hne, hx] at x2
 injection x2 with x2
 injection x2 with e1 e2 e3
 have hr2 : 0 < (rd_L5 t'.far (c0 : Int)).length := by omega
 obtain ⟨ad3, hA3, hx3⟩ := laterI hC2 0 hr2
 rw [← e1] at hA3
 cases hA3
 have x3 := hx3 _ (Below.refl _ _)
 rw [add0, World.cell?_setCell_same _ _ _ y] at x3
 have hz : rd (rd_L5 t'.far (c0 : Int)) ((0 : Nat) : Int) = -2 := by
  have := Option.some.inj x3
  injection this with _ h
  exact h.symm
 rw [← hsh.cells a]
 exact fells_of hC' (hsh.sm hS) (chk_far (by omega) (farOk_at hl hr2 (by rw [hz]; omega)))
theorem odd3 (hT : TabR W b (.agg (a.cells T)) T) (hC : TabC W a T) (hS : TabSm T) (n : Nat) (hn : n ≤ 20) (h1 : 1 ≤ n) (hs : T.si.length = n) {tb : Nat} {cells : Array Value} (hb : W.heap[tb]? = some (.cells cells 46 (0, 0))) (u : Value) :
  Fells n #[.slice a.A0 T.g.length a.c0, .slice a.A1 T.far.length a.c1, .slice a.A2 T.out.length a.c2, .slice a.A3 T.inn.length a.c3, .slice a.A4 T.so.length a.c4, .slice a.A5 (n - 1) a.c5] (W.setCell ⟨tb, 5, none⟩ u) := by
 have hC2 : TabC (W.setCell ⟨tb, 5, none⟩ u) a T := by
  obtain ⟨vG, vF, vO, vI, vS, vT, e, k1, k2, k3, k4, k5, k6⟩ := hT
  have hT2 : TabR (W.setCell ⟨tb, 5, none⟩ u) b (.agg (a.cells T)) T := ⟨vG, vF, vO, vI, vS, vT, e, Kd.R_set k1 hb (by decide) 5 u, Kd.R_set k2 hb (by decide) 5 u, Kd.R_set k3 hb (by decide) 5 u, Kd.R_set k4 hb (by decide) 5 u, Kd.R_set k5 hb (by decide) 5 u, Kd.R_set k6 hb (by decide) 5 u⟩
  obtain ⟨a', e', hC'⟩ := hT2.reads
  obtain ⟨A0, c0, A1, c1, A2, c2, A3, c3, A4, c4, A5, c5⟩ := a
  obtain ⟨A0', c0', A1', c1', A2', c2', A3', c3', A4', c4', A5', c5'⟩ := a'
  simp [TabAt.cells] at e'
  obtain ⟨⟨rfl, rfl⟩, ⟨rfl, rfl⟩, ⟨rfl, rfl⟩, ⟨rfl, rfl⟩, ⟨rfl, rfl⟩, ⟨rfl, rfl⟩⟩ := e'
  exact hC'
 have hlt : (T.si.take (n - 1)).length = n - 1 := by rw [List.length_take]; omega
 have hC3 : TabC (W.setCell ⟨tb, 5, none⟩ u) a { T with si := T.si.take (n - 1) } := ⟨hC2.g, hC2.far, hC2.out, hC2.inn, hC2.so, by
  show Kd.C kII _ _ (T.si.take (n - 1)).length (T.si.take (n - 1))
  rw [hlt]
  exact C_take hC2.si (n - 1) (by omega), hC2.cg⟩
 have hS3 : TabSm { T with si := T.si.take (n - 1) } := ⟨hS.g, hS.far, hS.fars, hS.out, hS.outs, hS.inn, hS.inns, hS.so, hS.sos, by show (T.si.take (n - 1)).length ≤ _; rw [hlt]; omega, fun r hr => hS.sis r (List.mem_of_mem_take hr)⟩
 have := fells_of hC3 hS3 (chk_si (n := (n : Int)) (by omega) (risingI_len (by show ((T.si.take (n - 1)).length : Int) ≠ n; rw [hlt]; omega)))
 unfold TabAt.cells at this
 simp only [hlt] at this
 exact this
theorem odd4 (hT : TabR W b (.agg (a.cells T)) T) (hS : TabSm T) (n v q : Nat) (hn : n ≤ 20) (hv : v < T.so.length) (g0 : Int) (hg : g0 ∈ T.g) (hq : W.heap[q]? = some (.cells #[.int .i64 g0] 3 (0, 0))) :
  ∃ so B k c, a.A4 = some ⟨so, 0, none⟩ ∧ W.cell? ⟨so, v, none⟩ = some (.slice B k c) ∧ b ≤ so ∧ (∃ cells, W.heap[so]? = some (.cells cells 28 (0, 0))) ∧ Fells n (a.cells T) (W.setCell ⟨so, v, none⟩ (.slice (some ⟨q, 0, none⟩) 1 1)) := by
 obtain ⟨a', e', hC⟩ := hT.reads
 have hT' := hT
 obtain ⟨vG, vF, vO, vI, vS, vT, e, _, _, _, _, h5, _⟩ := hT'
 simp [TabAt.cells] at e
 obtain ⟨_, _, _, _, rfl, _⟩ := e
 have ea : a' = a := by
  obtain ⟨A0, c0, A1, c1, A2, c2, A3, c3, A4, c4, A5, c5⟩ := a
  obtain ⟨A0', c0', A1', c1', A2', c2', A3', c3', A4', c4', A5', c5'⟩ := a'
  simp [TabAt.cells] at e'
  obtain ⟨⟨rfl, rfl⟩, ⟨rfl, rfl⟩, ⟨rfl, rfl⟩, ⟨rfl, rfl⟩, ⟨rfl, rfl⟩, ⟨rfl, rfl⟩⟩ := e'
  rfl
 subst ea
 obtain ⟨so, hA, hb, hty⟩ := R_headN h5 (by omega)
 obtain ⟨ad, B, c, hA', hx⟩ := laterII hC.so v hv
 rw [hA] at hA'
 cases hA'
 have x := (hx W (Below.refl _ _)).1
 rw [add0] at x
 refine ⟨so, B, _, c, hA, x, hb, hty, ?_⟩
 have hB : Kd.C (Kd.int .i64) W (some ⟨q, 0, none⟩) [g0].length [g0] := by
  refine ⟨rfl, by simp, fun _ => ⟨_, rfl, fun j p hj => ?_⟩⟩
  rcases j with _ | j
  ·obtain rfl : g0 = p := Option.some.inj hj
   refine ⟨[.int .i64 g0], rfl, rfl, fun i u hu => ?_⟩
   match i, hu with
   | 0, hu => cases hu; exact (blk_cell hq 0).trans rfl
   | i + 1, hu => simp at hu
  ·simp at hj
 obtain ⟨t', hC', hsh, hgg⟩ := hT.rowI x hty (some ⟨q, 0, none⟩) 1 [g0] (Nat.le_refl _) (by simp) hB
 have hl : v < t'.so.length := by rw [hsh.so]; exact hv
 obtain ⟨ad2, B2, k2, hA2, hx2⟩ := laterII hC'.so v hl
 rw [hA] at hA2
 cases hA2
 obtain ⟨x2, hk2, hC2⟩ := hx2 _ (Below.refl _ _)
 rw [add0, World.cell?_setCell_same _ _ _ x] at x2
 injection x2 with x2
 injection x2 with e1 e2 e3
 have hr2 : 0 < (rd_L5 t'.so (v : Int)).length := by rw [← e2]; simp
 obtain ⟨ad3, hA3, hx3⟩ := laterI hC2 0 hr2
 rw [← e1] at hA3
 cases hA3
 have x3 := hx3 _ (Below.refl _ _)
 have hcq : W.cell? ⟨q, 0, none⟩ = some (.int .i64 g0) := (blk_cell hq 0).trans rfl
 have hne : (⟨so, v, none⟩ : Addr) ≠ ⟨q, 0, none⟩ := fun e => by rw [e, hcq] at x; cases x
 rw [add0, World.cell?_setCell_other _ _ _ _ hne, hcq] at x3
 have hz : rd (rd_L5 t'.so (v : Int)) ((0 : Nat) : Int) = g0 := by
  have := Option.some.inj x3
  injection this with _ h
  exact h.symm
 rw [← hsh.cells a']
 refine fells_of hC' (hsh.sm hS) (chk_so (by omega) (risingI_at (r := rd_L5 t'.so (v : Int)) (by rw [rdL5_get hl]; exact List.getElem_mem hl) hr2 ?_))
 rw [hz, hgg]
 have := idxP_ge.2 hg
 unfold lowQ
 simp
 intro _
 omega
theorem odd5 (hT : TabR W b (.agg (a.cells T)) T) (hS : TabSm T) (n v q : Nat) (hn : n ≤ 20) (hv : v < T.inn.length) (g0 : Int) (hq : W.heap[q]? = some (.cells #[.int .i64 g0, .int .i64 (-1)] 37 (0, 0))) :
  ∃ io B k c, a.A3 = some ⟨io, 0, none⟩ ∧ W.cell? ⟨io, v, none⟩ = some (.slice B k c) ∧ b ≤ io ∧ (∃ cells, W.heap[io]? = some (.cells cells 33 (0, 0))) ∧ Fells n (a.cells T) (W.setCell ⟨io, v, none⟩ (.slice (some ⟨q, 0, none⟩) 1 1)) := by
 obtain ⟨a', e', hC⟩ := hT.reads
 have hT' := hT
 obtain ⟨vG, vF, vO, vI, vS, vT, e, _, _, _, h4, _⟩ := hT'
 simp [TabAt.cells] at e
 obtain ⟨_, _, _, rfl, _⟩ := e
 have ea : a' = a := by
  obtain ⟨A0, c0, A1, c1, A2, c2, A3, c3, A4, c4, A5, c5⟩ := a
  obtain ⟨A0', c0', A1', c1', A2', c2', A3', c3', A4', c4', A5', c5'⟩ := a'
  simp [TabAt.cells] at e'
  obtain ⟨⟨rfl, rfl⟩, ⟨rfl, rfl⟩, ⟨rfl, rfl⟩, ⟨rfl, rfl⟩, ⟨rfl, rfl⟩, ⟨rfl, rfl⟩⟩ := e'
  rfl
 subst ea
 obtain ⟨io, hA, hb, hty⟩ := R_headN h4 (by omega)
 obtain ⟨ad, B, c, hA', hx⟩ := laterRR hC.inn v hv
 rw [hA] at hA'
 cases hA'
 have x := (hx W (Below.refl _ _)).1
 rw [add0] at x
 refine ⟨io, B, _, c, hA, x, hb, hty, ?_⟩
 have hcq : ∀ i u, [Value.int .i64 g0, .int .i64 (-1)][i]? = some u → W.cell? ⟨q, i, none⟩ = some u := fun i u hu => (blk_cell hq i).trans (by
  match i, hu with
  | 0, hu => exact hu
  | 1, hu => exact hu
  | i + 2, hu => simp at hu)
 have hne : ∀ i u, [Value.int .i64 g0, .int .i64 (-1)][i]? = some u → (W.setCell ⟨io, v, none⟩ (.slice (some ⟨q, 0, none⟩) 1 1)).cell? ⟨q, i, none⟩ = some u := fun i u hu => by
  have h1 := hcq i u hu
  have hn : (⟨io, v, none⟩ : Addr) ≠ ⟨q, i, none⟩ := fun e => by
   rw [← e, x] at h1
   cases h1
   match i, hu with
   | 0, hu => simp at hu
   | 1, hu => simp at hu
   | i + 2, hu => simp at hu
  exact (World.cell?_setCell_other _ _ _ _ hn).trans h1
 have hB : Kd.C k37 (W.setCell ⟨io, v, none⟩ (.slice (some ⟨q, 0, none⟩) [(⟨g0, -1⟩ : S37)].length 1)) (some ⟨q, 0, none⟩) [(⟨g0, -1⟩ : S37)].length [⟨g0, -1⟩] := by
  refine ⟨rfl, by simp, fun _ => ⟨_, rfl, fun j p hj => ?_⟩⟩
  rcases j with _ | j
  ·obtain rfl : (⟨g0, -1⟩ : S37) = p := Option.some.inj hj
   refine ⟨[.int .i64 g0, .int .i64 (-1)], rfl, k37_mk _ _, fun i u hu => ?_⟩
   rw [add0, Nat.zero_mul, Nat.zero_add]
   exact hne i u hu
  ·simp at hj
 obtain ⟨t', hC', hsh, hgg⟩ := hT.rowP x hty (some ⟨q, 0, none⟩) 1 [(⟨g0, -1⟩ : S37)] (Nat.le_refl _) (by simp) hB
 have hl : v < t'.inn.length := by rw [hsh.inn]; exact hv
 obtain ⟨ad2, B2, k2, hA2, hx2⟩ := laterRR hC'.inn v hl
 rw [hA] at hA2
 cases hA2
 obtain ⟨x2, hk2, hC2⟩ := hx2 _ (Below.refl _ _)
 rw [add0, World.cell?_setCell_same _ _ _ x] at x2
 injection x2 with x2
 injection x2 with e1 e2 e3
 have hr2 : 0 < (rd_L7 t'.inn (v : Int)).length := by rw [← e2]; simp
 obtain ⟨ad3, hA3, hx3⟩ := laterP hC2 0 hr2
 rw [← e1] at hA3
 cases hA3
 have x3 := (hx3 _ (Below.refl _ _)).2
 have hz : (rd_T37 (rd_L7 t'.inn (v : Int)) ((0 : Nat) : Int)).f1 = -1 := by
  have h1 := hne 1 _ rfl
  have h2 : ((⟨q, 0, none⟩ : Addr).add (0 * 2)) = ⟨q, 0, none⟩ := by rw [add0]
  rw [h2] at x3
  change (W.setCell ⟨io, v, none⟩ (.slice (some ⟨q, 0, none⟩) 1 1)).cell? ⟨q, 1, none⟩ = _ at x3
  rw [h1] at x3
  have := Option.some.inj x3
  injection this with _ h
  exact h.symm
 rw [← hsh.cells a']
 refine fells_of hC' (hsh.sm hS) (chk_inn (by omega) (risingR_at (r := rd_L7 t'.inn (v : Int)) (by rw [rdL7_get hl]; exact List.getElem_mem hl) hr2 ?_))
 unfold greatQ longP
 rw [hz]
 simp
end
end Go.Proofs.YtfkejflmhidnaaaGreat.PAll
