import Derived.Test.YtfkejflmhidnaaaGreatQZKwA
import Derived.Test.YtfkejflmhidnaaaGreatQZQtA
import Derived.Test.YtfkejflmhidnaaaGreatQCmB
import Derived.Test.YtfkejflmhidnaaaGreatQLoA
set_option linter.all false
namespace Go.Proofs.YtfkejflmhidnaaaGreat.PAll
open RowKit YtfkejflmhidnaaaGreatW.PrintWords YtfkejflmhidnaaaGreatW.PrintLast YtfkejflmhidnaaaGreatW.PrintMore
open Hp hiding Good
def dOf (t : TabP) (a b : S37) : Int := rd (rd_L5 t.far (idxP t.g a.f0)) (idxP t.g b.f0)
def sumE (t : TabP) (a b : S37) : Option Int := if dOf t a b = -1 then none else some (a.f1 + dOf t a b + b.f1)
def inS (t : TabP) (a : S37) (l : List S37) : List Int := l.filterMap (sumE t a)
def sumsP (t : TabP) (o l : List S37) : List Int := o.flatMap (fun a => inS t a l)
def bestS (b d : Int) : Int := if b = -1 ∨ d < b then d else b
def bestL (l : List Int) : Int := l.foldl bestS (-1)
def byP (t : TabP) (s u : Nat) : Int × Bool := if localP (rd_L5 t.so (s : Int)) (rd_L5 t.si (u : Int)) = true then (-1, true) else (bestL (sumsP t (t.out.getD s []) (t.inn.getD u [])), false)
theorem inS_take (t : TabP) (a : S37) (l : List S37) (j : Nat) (h : j < l.length) : inS t a (l.take (j + 1)) = inS t a (l.take j) ++ (sumE t a (rd_T37 l (j : Int))).toList := by
 unfold inS
 rw [List.take_succ_eq_append_getElem h, List.filterMap_append, rd37_get h]
 cases he : sumE t a l[j] <;> simp [he]
theorem sums_take (t : TabP) (o l : List S37) (i : Nat) (h : i < o.length) : sumsP t (o.take (i + 1)) l = sumsP t (o.take i) l ++ inS t (rd_T37 o (i : Int)) l := by
 unfold sumsP
 rw [List.take_succ_eq_append_getElem h, List.flatMap_append, rd37_get h]
 simp
theorem inS_pre (t : TabP) (a : S37) (l : List S37) (j : Nat) : inS t a (l.take j) <+: inS t a l := by
 refine ⟨inS t a (l.drop j), ?_⟩
 unfold inS
 rw [← List.filterMap_append, List.take_append_drop]
theorem sums_pre (t : TabP) (o l : List S37) (i : Nat) : sumsP t (o.take i) l <+: sumsP t o l := by
 refine ⟨sumsP t (o.drop i) l, ?_⟩
 unfold sumsP
 rw [← List.flatMap_append, List.take_append_drop]
theorem sums_pre2 (t : TabP) (o l : List S37) (i j : Nat) (h : i < o.length) : sumsP t (o.take i) l ++ inS t (rd_T37 o (i : Int)) (l.take j) <+: sumsP t o l := by
 have h1 := sums_pre t o l (i + 1)
 rw [sums_take t o l i h] at h1
 obtain ⟨x, hx⟩ := inS_pre t (rd_T37 o (i : Int)) l j
 exact List.IsPrefix.trans ⟨x, by rw [List.append_assoc, hx]⟩ h1
theorem best_take (p : List Int) (x : Int) : bestL (p ++ [x]) = bestS (bestL p) x := by simp [bestL]
theorem best_zero {l p : List Int} (hp : p <+: l) (hl : ∀ x ∈ l, 0 ≤ x) (h : bestL p = 0) : bestL l = 0 := by
 obtain ⟨r, rfl⟩ := hp
 have hr : ∀ x ∈ r, 0 ≤ x := fun x hx => hl x (List.mem_append_right _ hx)
 unfold bestL at h ⊢
 rw [List.foldl_append, h]
 clear h hl
 induction r with
 | nil => rfl
 | cons x r ih =>
  have := hr x (List.mem_cons_self ..)
  rw [List.foldl_cons, show bestS 0 x = 0 by unfold bestS; rw [if_neg (by omega)]]
  exact ih (fun y hy => hr y (List.mem_cons_of_mem _ hy))
theorem best_lstT (l : List Int) (h : ∀ x ∈ l, 0 ≤ x) : ∀ j, j ≤ l.length → Lst (fun d => d ∈ l.take j) (bestL (l.take j))
 | 0, _ => .inl ⟨rfl, fun d h => by simp at h⟩
 | j + 1, hj => by
  have h1 := best_lstT l h j (by omega)
  rw [show bestL (l.take (j + 1)) = bestS (bestL (l.take j)) l[j] by rw [List.take_succ_eq_append_getElem (show j < l.length by omega), best_take]]
  exact (h1.add (fun e he => h e (List.mem_of_mem_take he)) (h _ (List.getElem_mem _))).same (fun d => by rw [List.take_succ_eq_append_getElem (show j < l.length by omega), List.mem_append, List.mem_singleton])
theorem best_lst (l : List Int) (h : ∀ x ∈ l, 0 ≤ x) : Lst (fun d => d ∈ l) (bestL l) := by
 have := best_lstT l h l.length (Nat.le_refl _)
 rwa [List.take_length] at this
structure RowGd (t : TabP) (r : List S37) : Prop where
 ix : ∀ x ∈ r, ∃ i : Nat, i < t.g.length ∧ idxP t.g x.f0 = i
 sm : ∀ x ∈ r, 0 ≤ x.f1 ∧ x.f1 ≤ 1152921504606846976
structure TabGd (t : TabP) : Prop where
 asc : t.g.Pairwise (fun a b => a < b)
 far : t.far.length = t.g.length
 row : ∀ i : Nat, i < t.g.length → (rd_L5 t.far (i : Int)).length = t.g.length
 num : ∀ i j : Nat, i < t.g.length → j < t.g.length → -1 ≤ rd (rd_L5 t.far (i : Int)) (j : Int) ∧ rd (rd_L5 t.far (i : Int)) (j : Int) ≤ 1152921504606846976
 out : ∀ r ∈ t.out, RowGd t r
 inn : ∀ r ∈ t.inn, RowGd t r
 sip : ∀ r ∈ t.si, r.Pairwise (fun a b => a < b)
theorem sum_nn {t : TabP} (G : TabGd t) {o l : List S37} (ho : RowGd t o) (hl : RowGd t l) : ∀ x ∈ sumsP t o l, 0 ≤ x := fun x hx => by
 unfold sumsP at hx
 obtain ⟨a, ha, hx⟩ := List.mem_flatMap.1 hx
 unfold inS at hx
 obtain ⟨b, hb, hx⟩ := List.mem_filterMap.1 hx
 obtain ⟨i, hi, ei⟩ := ho.ix a ha
 obtain ⟨j, hj, ej⟩ := hl.ix b hb
 have h1 := G.num i j hi hj
 have h2 := ho.sm a ha
 have h3 := hl.sm b hb
 unfold sumE at hx
 split at hx
 ·cases hx
 ·rename_i hne
  cases hx
  unfold dOf at hne ⊢
  rw [ei, ej] at hne ⊢
  omega
variable {n : Nat} {wm : Int} {h : HierP}
theorem gd_row {k : Int} {r : List S37} (hr : ∀ x ∈ r, x.f0 ∈ greatP n h k ∧ 0 ≤ x.f1 ∧ x.f1 ≤ 23643898043695104) : RowGd (buildT n h k) r := by
 refine ⟨fun x hx => ?_, fun x hx => by have := hr x hx; omega⟩
 have hm := (hr x hx).1
 exact ⟨(greatP n h k).idxOf x.f0, List.idxOf_lt_length_of_mem hm, by unfold idxP; exact if_pos hm⟩
theorem gd_build (hok : HOk n wm h) (hn : n ≤ 20) (G : GrOk n h) (k : Int) : TabGd (buildT n h k) := by
 have hrow : ∀ i : Nat, (hi : i < (greatP n h k).length) → rd_L5 (tableP n h (greatP n h k) (greatP n h k)) (i : Int) = (greatP n h k).map (fun t => farP n h (greatP n h k)[i] t) := fun i hi => by
  have hlen : (tableP n h (greatP n h k) (greatP n h k)).length = (greatP n h k).length := by simp [tableP]
  rw [rdL5_get (by omega)]; simp [tableP]
 refine ⟨G.asc k, by show (tableP n h _ _).length = _; simp [tableP]; rfl, fun i hi => ?_, fun i j hi hj => ?_, fun r hr => ?_, fun r hr => ?_, fun r hr => ?_⟩
 ·exact (congrArg List.length (hrow i hi)).trans (by simp; rfl)
 ·change i < (greatP n h k).length at hi
  change j < (greatP n h k).length at hj
  have e : rd (rd_L5 (buildT n h k).far (i : Int)) (j : Int) = farP n h (greatP n h k)[i] (greatP n h k)[j] := by
   refine (congrArg (fun r => rd r (j : Int)) (hrow i hi)).trans ?_
   show rd _ (j : Int) = _
   rw [rd_get (by simpa using hj), List.getElem_map]
  rw [e]
  have := far_small hok hn (greatP n h k)[i] (greatP n h k)[j]
  omega
 ·obtain ⟨v, hv, rfl⟩ := List.mem_map.1 hr
  exact gd_row (fun x hx => out_great hok hn G k (List.mem_range.1 hv) hx)
 ·obtain ⟨v, hv, rfl⟩ := List.mem_map.1 hr
  exact gd_row (fun x hx => out_great hok hn G k (List.mem_range.1 hv) hx)
 ·obtain ⟨v, hv, rfl⟩ := List.mem_map.1 hr
  exact sub_pair v k true
end Go.Proofs.YtfkejflmhidnaaaGreat.PAll
namespace Go.Proofs.YtfkejflmhidnaaaGreat.PAll
open RowKit YtfkejflmhidnaaaGreatW.PrintWords YtfkejflmhidnaaaGreatW.PrintLast YtfkejflmhidnaaaGreatW.PrintMore
open Hp hiding Good
open Range (SeqCell wpIn_rangeFunc_cell)
attribute [local go_sem] Oper.semAt_some
theorem at_rowX {W : World} {A : Option Addr} {n : Nat} {out : List (List S37)} (h : Kd.C kRR W A n out) (v : Nat) (hv : v < n) :
  ∃ ad B c, A = some ad ∧ W.cell? (ad.add v) = some (.slice B (out.getD v []).length c) ∧ (out.getD v []).length ≤ c ∧ Kd.C k37 W B (out.getD v []).length (out.getD v []) := by
 obtain ⟨ad, cs, hA, _, ⟨B, c, hcs, hlc, hrow⟩, hc0⟩ := Kd.C_get h [] (v : Int) (by omega) (by omega)
 rw [Int.toNat_natCast] at hcs hlc hrow hc0
 subst hcs
 have := hc0 0 _ rfl
 refine ⟨ad, B, c, hA, ?_, hlc, hrow⟩
 simpa [Kd.slice] using this
theorem at_rowZ {W : World} {A : Option Addr} {n : Nat} {out : List (List Int)} (h : Kd.C kII W A n out) (v : Nat) (hv : v < n) :
  ∃ ad B c, A = some ad ∧ W.cell? (ad.add v) = some (.slice B (rd_L5 out (v : Int)).length c) ∧ (rd_L5 out (v : Int)).length ≤ c ∧ Kd.C (Kd.int .i64) W B (rd_L5 out (v : Int)).length (rd_L5 out (v : Int)) := by
 obtain ⟨ad, cs, hA, _, ⟨B, c, hcs, hlc, hrow⟩, hc0⟩ := Kd.C_get h [] (v : Int) (by omega) (by omega)
 have e : out.getD (v : Int).toNat [] = rd_L5 out (v : Int) := rfl
 rw [e] at hcs hlc hrow
 subst hcs
 have := hc0 0 _ rfl
 refine ⟨ad, B, c, hA, ?_, hlc, hrow⟩
 simpa [Kd.slice] using this
def KpS (n0 bb : Nat) (W W' : World) : Prop := Below n0 W W' ∧ ∀ k o, k ≠ bb → W.heap[k]? = some o → o.isCells = true → W'.heap[k]? = some o
theorem KpS.trans {n0 bb : Nat} {A B C : World} (h : KpS n0 bb A B) (g : KpS n0 bb B C) : KpS n0 bb A C := ⟨h.1.trans g.1, fun k o hk ho hc => g.2 k o hk (h.2 k o hk ho hc) hc⟩
structure RelS (w0 : World) (B bb : Nat) (cells : Array Value) (s u : Nat) (J : List Int → World → Prop) (wr : World) (pre : List Int) : Prop where
 tb : wr.heap[B]? = some (.cells cells 46 (0, 0))
 sb : wr.heap[B + 1]? = some (.cells #[.int .i64 s] 3 (0, 0))
 ub : wr.heap[B + 1 + 1]? = some (.cells #[.int .i64 u] 3 (0, 0))
 bel : Below w0.heap.size w0 wr
 lt : bb < wr.heap.size
 inv : J pre wr
theorem RelS.still {w0 : World} {B bb : Nat} {cells : Array Value} {s u : Nat} {J : List Int → World → Prop} {wr W1 : World} {pre : List Int} (R : RelS w0 B bb cells s u J wr pre) (hJa : ∀ s W W', J s W → Below W.heap.size W W' → J s W') (g : Below wr.heap.size wr W1) : RelS w0 B bb cells s u J W1 pre :=
 ⟨(g.block _ (blk_lt R.tb)).trans R.tb, (g.block _ (blk_lt R.sb)).trans R.sb, (g.block _ (blk_lt R.ub)).trans R.ub, R.bel.trans (g.mono R.bel.size), Nat.lt_of_lt_of_le R.lt g.size, hJa _ _ _ R.inv g⟩
theorem RelS.step {w0 : World} {B bb : Nat} {cells : Array Value} {s u : Nat} {J : List Int → World → Prop} {wr W1 : World} {pre pre' : List Int} (R : RelS w0 B bb cells s u J wr pre) (hbb : bb ≠ B ∧ bb ≠ B + 1 ∧ bb ≠ B + 1 + 1) (hJ : J pre' W1) (g : KpS w0.heap.size bb wr W1) : RelS w0 B bb cells s u J W1 pre' :=
 ⟨g.2 _ _ (Ne.symm hbb.1) R.tb rfl, g.2 _ _ (Ne.symm hbb.2.1) R.sb rfl, g.2 _ _ (Ne.symm hbb.2.2) R.ub rfl, R.bel.trans g.1, Nat.lt_of_lt_of_le R.lt g.1.size, hJ⟩
set_option maxRecDepth 100000 in
set_option maxHeartbeats 4000000 in
theorem sums1_in (n : Nat) (hn : 1 ≤ n) (l B bb : Nat) (w0 : World) (hB : w0.heap.size ≤ B) (hbb : bb ≠ B ∧ bb ≠ B + 1 ∧ bb ≠ B + 1 + 1) (ta : TabAt) (t : TabP) (hT : TabC w0 ta t) (hS : TabSm t) (G : TabGd t) (s u : Nat) (hs : s < t.out.length) (hu : u < t.inn.length) (J Jx : List Int → World → Prop)
  (hJa : ∀ s W W', J s W → Below W.heap.size W W' → J s W')
  (hY : ∀ pre x W, J pre W → pre.length < (sumsP t (t.out.getD s []) (t.inn.getD u [])).length → YieldAt Fence.wide (n - 1) Tryz.prog l #[.int .i64 x] W fun e W' =>
   (e = .returned (.bool true) ∧ J (pre ++ [x]) W' ∧ KpS w0.heap.size bb W W') ∨ (e = .returned (.bool false) ∧ Jx (pre ++ [x]) W'))
  (W : World) (hR : RelS w0 B bb (ta.cells t) s u J W []) :
  CallsIn Fence.wide n Tryz.prog 133 #[.func (.yield l) #[] #[], .pointer (some ⟨B, 0, none⟩), .pointer (some ⟨B + 1, 0, none⟩), .pointer (some ⟨B + 1 + 1, 0, none⟩)] W fun e W' => (∃ v, e = .returned v) ∧
   ((∃ ys, ys = sumsP t (t.out.getD s []) (t.inn.getD u []) ∧ J ys W') ∨ (∃ pre, pre <+: sumsP t (t.out.getD s []) (t.inn.getD u []) ∧ Jx pre W')) := by
 obtain ⟨ao, O, oc, hA2, ro, _, hCO⟩ := at_rowX hT.out s hs
 obtain ⟨ai, I, ic, hA3, ri, _, hCI⟩ := at_rowX hT.inn u hu
 have hmo : t.out.getD s [] ∈ t.out := by rw [List.getD_eq_getElem?_getD, List.getElem?_eq_getElem hs]; exact List.getElem_mem hs
 have hmi : t.inn.getD u [] ∈ t.inn := by rw [List.getD_eq_getElem?_getD, List.getElem?_eq_getElem hu]; exact List.getElem_mem hu
 have hgo := G.out _ hmo
 have hgi := G.inn _ hmi
 have hlo := hS.outs _ hmo
 have hli := hS.inns _ hmi
 have hgl := hS.g
 have HPL : Hid (∀ W, Below w0.heap.size w0 W → ∀ x : Int, Calls Tryz.prog 55 #[.slice ta.A0 t.g.length ta.c0, .int .i64 x] W fun r w' => r = .returned (.int .i64 (idxP t.g x)) ∧ Below W.heap.size W w') := Lib.hid (fun W g x => (place_walk W ta.A0 ta.c0 t.g x (Kd.C_below hT.g g) hT.cg G.asc hgl).mono (by rintro r w' ⟨h1, j, rfl⟩; exact ⟨h1, pw_below_drewN (Below.refl _ _) j⟩))
 have HFA : Hid (∀ i : Nat, i < t.g.length → ∃ af Fr fc, ta.A1 = some af ∧ (∀ W, Below w0.heap.size w0 W → W.cell? (af.add i) = some (.slice Fr t.g.length fc)) ∧ Kd.C (Kd.int .i64) w0 Fr t.g.length (rd_L5 t.far (i : Int))) := Lib.hid (fun i hi => by
  obtain ⟨af, Fr, fc, h1, h2, _, h4⟩ := at_rowZ hT.far i (by rw [G.far]; exact hi)
  rw [G.row i hi] at h2 h4
  exact ⟨af, Fr, fc, h1, fun W g => (g.cell (World.block_lt_of_cell? _ _ h2)).trans h2, h4⟩)
 have HNUM := Lib.hid G.num
 have HIX := Lib.hid hgo.ix
 have HSMo := Lib.hid hgo.sm
 have HIX2 := Lib.hid hgi.ix
 have HSMi := Lib.hid hgi.sm
 have HRO : Hid (∀ W, Below w0.heap.size w0 W → W.cell? (ao.add s) = some (.slice O (t.out.getD s []).length oc)) := Lib.hid (fun W g => (g.cell (World.block_lt_of_cell? _ _ ro)).trans ro)
 have HRI : Hid (∀ W, Below w0.heap.size w0 W → W.cell? (ai.add u) = some (.slice I (t.inn.getD u []).length ic)) := Lib.hid (fun W g => (g.cell (World.block_lt_of_cell? _ _ ri)).trans ri)
 have HCO := Lib.hid hCO
 have HCI := Lib.hid hCI
 have HD : Hid (∀ (x y : S37) (i j : Nat), idxP t.g x.f0 = i → idxP t.g y.f0 = j → sumE t x y = if rd (rd_L5 t.far (i : Int)) (j : Int) = -1 then none else some (x.f1 + rd (rd_L5 t.far (i : Int)) (j : Int) + y.f1)) := Lib.hid (fun x y i j e1 e2 => by unfold sumE dOf; rw [e1, e2])
 have hso : s < 1000000 := Nat.lt_of_lt_of_le hs hS.out
 have hui : u < 1000000 := Nat.lt_of_lt_of_le hu hS.inn
 unfold TabAt.cells at hR
 rw [hA2, hA3] at hR
 have hn2 := hS.out
 have hn3 := hS.inn
 clear hT hS ro ri hCO hCI hmo hmi hgo hgi hA2 hA3
 generalize t.out.length = no at *
 generalize t.inn.length = ni at *
 generalize hO : t.out.getD s [] = o at *
 generalize hI : t.inn.getD u [] = i' at *
 have hfg := G.far
 clear hO hI G
 generalize ho' : o.length = ol at *
 generalize hi' : i'.length = il at *
 have HOL := Lib.hid ho'
 have HIL := Lib.hid hi'
 clear ho' hi'
 generalize t.far.length = fl at *
 generalize t.so.length = sl at *
 generalize t.si.length = tl at *
 obtain ⟨A0, c0, A1, c1, A2, c2, A3, c3, A4, c4, A5, c5⟩ := ta
 simp only at hR HPL HFA
 generalize hgl' : t.g.length = gl at *
 have t1 := (blk_cell hR.tb 2).trans rfl
 have tl1 := blk_lt hR.tb
 have s1 := (blk_cell hR.sb 0).trans rfl
 have sl1 := blk_lt hR.sb
 have k1 := HRO.out _ hR.bel
 have HR0 := Lib.hid hR
 clear hR
 have hs0 : (0 : Int) ≤ (s : Int) := Int.natCast_nonneg _
 have hs1 : (s : Int) < (no : Int) := by omega
 have hu0 : (0 : Int) ≤ (u : Int) := Int.natCast_nonneg _
 have hu1 : (u : Int) < (ni : Int) := by omega
 refine callsIn_of_wp Tryz.func133 rfl trivial ?_ rfl
 simp only [Tryz.ntmps133, List.size_toArray, List.length_cons, List.length_nil, Nat.reduceAdd, Nat.reduceSub, Array.replicate_succ, Array.replicate_zero, List.push_toArray, List.append_toArray, List.nil_append, List.cons_append]
 gi_wp2
 clear t1 tl1 s1 sl1 k1
 gi_loopw [17] (fun v17 wr => ∃ i : Nat, v17 = .int .i64 i ∧ i ≤ ol ∧ Hid (RelS w0 B bb #[.slice A0 gl c0, .slice A1 fl c1, .slice (some ao) no c2, .slice (some ai) ni c3, .slice A4 sl c4, .slice A5 tl c5] s u J wr (sumsP t (o.take i) i'))) (fun v17 wr => ol - (intOf v17).toNat)
 case atStart => exact ⟨0, rfl, by omega, HR0⟩
 case round =>
  obtain ⟨i, rfl, hi, HR⟩ := hrel
  clear HR0
  by_cases hil : i < ol
  rotate_left
  ·have hle : ol ≤ i := by omega
   have HE : Hid (o.take i = o) := Lib.hid (List.take_of_length_le (by have := HOL.out; omega))
   rw [HE.out] at HR
   gi_wp2
   go_end0
   exact ⟨⟨_, rfl⟩, .inl ⟨_, rfl, HR.out.inv⟩⟩
  have hi0 : (0 : Int) ≤ (i : Int) := Int.natCast_nonneg _
  have hi1 : (i : Int) < (ol : Int) := by omega
  obtain ⟨ad, rfl, ra0, ra1⟩ := at39C (Kd.C_below HCO.out HR.out.bel) i (by have := HOL.out; omega)
  have hma : rd_T37 o (i : Int) ∈ o := by rw [rd37_get (by have := HOL.out; omega)]; exact List.getElem_mem _
  obtain ⟨ia, hia, eia⟩ := HIX.out _ hma
  have hsa := HSMo.out _ hma
  have HST := Lib.hid (sums_take t o i' i (by have := HOL.out; omega))
  have HPR : Hid (∀ j, sumsP t (o.take i) i' ++ inS t (rd_T37 o (i : Int)) (i'.take j) <+: sumsP t o i') := Lib.hid (fun j => sums_pre2 t o i' i j (by have := HOL.out; omega))
  obtain ⟨af, Fr, fc, rfl, hfr, hCF⟩ := HFA.out ia hia
  have HFR := Lib.hid hfr
  have HCF := Lib.hid hCF
  clear hfr hCF hma
  generalize rd_T37 o (i : Int) = a at *
  have HEA := Lib.hid eia
  obtain ⟨a0, a1⟩ := a
  simp only at ra0 ra1 hsa eia
  generalize hP0 : sumsP t (o.take i) i' = P0 at *
  have HX6 := Lib.hid (blk_new wr (.cells #[.int .i64 a0, .int .i64 a1] 37))
  have HN6 := Lib.hid (HR.out.still hJa ((Below.refl _ _).alloc (Nat.le_refl _) (.cells #[.int .i64 a0, .int .i64 a1] 37)))
  have hltb : bb < wr.heap.size := HR.out.lt
  gi_wp2
  generalize wr.alloc (.cells #[.int .i64 a0, .int .i64 a1] 37) = W6 at *
  generalize hg6 : wr.heap.size = g6 at *
  have HG6 := Lib.hid hg6
  clear hg6 ra0 ra1
  have q1 := (blk_cell HN6.out.tb 1).trans rfl
  have q0 := (blk_cell HN6.out.tb 0).trans rfl
  have q6 := (blk_cell HX6.out 0).trans rfl
  have qf := HFR.out _ HN6.out.bel
  have HCF6 : Hid (∀ W, Below W6.heap.size W6 W → W.cell? ⟨B, 1, none⟩ = some (.slice (some af) fl c1) ∧ W.cell? ⟨B, 0, none⟩ = some (.slice A0 gl c0) ∧ W.cell? ⟨g6, 0, none⟩ = some (.int .i64 a0) ∧ W.cell? (af.add ia) = some (.slice Fr gl fc)) := Lib.hid (fun W g => by
   have b1 := (g.block _ (blk_lt HN6.out.tb)).trans HN6.out.tb
   have b2 := (g.block _ (blk_lt HX6.out)).trans HX6.out
   exact ⟨(blk_cell b1 1).trans rfl, (blk_cell b1 0).trans rfl, (blk_cell b2 0).trans rfl, HFR.out _ (HN6.out.bel.trans (g.mono HN6.out.bel.size))⟩)
  have HPA := Lib.hid (HPL.out W6.drew (HN6.out.bel.drew) a0)
  rw [eia] at HPA
  have hiaf : ia < fl := by omega
  have hia0 : (0 : Int) ≤ (ia : Int) := Int.natCast_nonneg _
  have hia1 : (ia : Int) < (fl : Int) := by omega
  refine wpIn_wide.2 ?_
  refine start_ (n := 10) (S := fun w' => w'.cell? ⟨B, 1, none⟩ = some (.slice (some af) fl c1) ∧ w'.cell? ⟨B, 0, none⟩ = some (.slice A0 gl c0) ∧ w'.cell? ⟨g6, 0, none⟩ = some (.int .i64 a0) ∧ w'.cell? (af.add ia) = some (.slice Fr gl fc)) (ds := []) (bA_ 10 0) (by kernel_rfl) rfl rfl ⟨(HCF6.out _ (Below.refl _ W6).drew).1, (HCF6.out _ (Below.refl _ W6).drew).2.1, (HCF6.out _ (Below.refl _ W6).drew).2.2.1, (HCF6.out _ (Below.refl _ W6).drew).2.2.2⟩ (fun hHeld => ?_)
  refine p2_ 0 21 (bA_ 10 1) ?_
  refine p2_ 2 23 (bA_ 10 5) ?_
  refine p2_ 4 25 (bA_ 10 21) ?_
  refine t2_ 1 22 (bA_ 10 23) hHeld ?_ (hy := by rintro w' ⟨s0, s1, s2, s3⟩; go_simp; with_reducible rfl)
  refine t2_ 3 24 (bA_ 10 31) hHeld ?_ (hy := by rintro w' ⟨s0, s1, s2, s3⟩; go_simp; with_reducible rfl)
  refine t2_ 5 26 (bA_ 10 63) hHeld ?_ (hy := by rintro w' ⟨s0, s1, s2, s3⟩; go_simp; with_reducible rfl)
  refine one_ (i := 6) (N := some 27) (bA_ 10 127) rfl rfl (by kernel_rfl) (by decide) (fun K hK => ?_)
  refine goes_ Tryz.func55 (by kernel_rfl) rfl #[.slice A0 gl c0, .int .i64 a0] (by rfl) rfl rfl (by simp only [List.map_toArray, List.map_cons, List.map_nil]; rfl) ?_
  with_reducible refine (HPA.out).mono ?_
  rintro e w3 ⟨rfl, g3⟩
  refine ⟨_, rfl, ?_⟩
  have HG3 := Lib.hid g3
  clear g3
  refine hK.out _ _ ⟨(HCF6.out _ ((Below.refl _ W6).drew.trans HG3.out)).1, (HCF6.out _ ((Below.refl _ W6).drew.trans HG3.out)).2.1, (HCF6.out _ ((Below.refl _ W6).drew.trans HG3.out)).2.2.1, (HCF6.out _ ((Below.refl _ W6).drew.trans HG3.out)).2.2.2⟩ (fun hHeld => ?_)
  clear hK K
  refine norm_ (a' := ?_) ?_ ?_
  rotate_left
  ·show Act.put _ (some 27) _ = _
   simp only [zN_]
   rfl
  refine p2_ 7 28 (bA_ 10 255) ?_
  refine t2_ 8 29 (bA_ 10 511) hHeld ?_ (hy := by rintro w' ⟨s0, s1, s2, s3⟩; go_simp; with_reducible rfl)
  refine p2_ 9 7 (bA_ 10 1023) ?_
  refine done_ (by kernel_rfl) ?_
  clear q1 q0 q6 qf
  have HN7 := Lib.hid (HN6.out.still hJa (((Below.refl _ W6).drew).trans (HG3.out.mono (Nat.le_refl _))))
  have HX7 := Lib.hid ((((Below.refl _ W6).drew).trans (HG3.out.mono (Nat.le_refl _))).block _ (blk_lt HX6.out) |>.trans HX6.out)
  have t3 := (blk_cell HN7.out.tb 3).trans rfl
  have tl3 := blk_lt HN7.out.tb
  have u1 := (blk_cell HN7.out.ub 0).trans rfl
  have ul1 := blk_lt HN7.out.ub
  have k1 := HRI.out _ HN7.out.bel
  have hg6b : bb < g6 := by have := HG6.out; omega
  gi_wp2
  clear t3 tl3 u1 ul1 k1
  gi_loopw [36] (fun v36 wr2 => ∃ j : Nat, v36 = .int .i64 j ∧ j ≤ il ∧ Hid (RelS w0 B bb #[.slice A0 gl c0, .slice (some af) fl c1, .slice (some ao) no c2, .slice (some ai) ni c3, .slice A4 sl c4, .slice A5 tl c5] s u J wr2 (P0 ++ inS t ⟨a0, a1⟩ (i'.take j))) ∧ Hid (wr2.heap[g6]? = some (.cells #[.int .i64 a0, .int .i64 a1] 37 (0, 0)))) (fun v36 wr2 => il - (intOf v36).toNat)
  case atStart => exact ⟨0, rfl, by omega, by simpa [inS] using HN7, HX7⟩
  case round =>
   obtain ⟨j, rfl, hj, HRi, HXi⟩ := hrel
   clear HN7 HX7
   by_cases hjl : j < il
   rotate_left
   ·have hle : il ≤ j := by omega
    have HE : Hid (i'.take j = i') := Lib.hid (List.take_of_length_le (by have := HIL.out; omega))
    rw [HE.out] at HRi
    gi_wp2
    go_roundw
    case measure => simp [intOf]; omega
    case rel => exact ⟨i + 1, by go_num, by omega, by rw [HST.out]; exact HRi⟩
   have hj0 : (0 : Int) ≤ (j : Int) := Int.natCast_nonneg _
   have hj1 : (j : Int) < (il : Int) := by omega
   obtain ⟨adi, rfl, rb0, rb1⟩ := at39C (Kd.C_below HCI.out HRi.out.bel) j (by have := HIL.out; omega)
   have hmb : rd_T37 i' (j : Int) ∈ i' := by rw [rd37_get (by have := HIL.out; omega)]; exact List.getElem_mem _
   obtain ⟨ib, hib, eib⟩ := HIX2.out _ hmb
   have hsb := HSMi.out _ hmb
   have HIT := Lib.hid (inS_take t ⟨a0, a1⟩ i' j (by have := HIL.out; omega))
   have HPJ := Lib.hid (HPR.out (j + 1))
   have hdd := HD.out ⟨a0, a1⟩ (rd_T37 i' (j : Int)) ia ib HEA.out eib
   obtain ⟨fr, rfl, hdc⟩ := Kd.at_int HCF.out (ib : Int) (by omega) (by omega)
   have HDC : Hid (∀ W, Below w0.heap.size w0 W → W.cell? (fr.add ib) = some (.int .i64 (rd (rd_L5 t.far (ia : Int)) (ib : Int)))) := Lib.hid (fun W g => (g.cell (World.block_lt_of_cell? _ _ hdc)).trans hdc)
   have hnm := HNUM.out ia ib hia hib
   have HSE := Lib.hid hdd
   clear hmb hdc hdd
   generalize rd_T37 i' (j : Int) = b at *
   obtain ⟨b0, b1⟩ := b
   simp only at rb0 rb1 hsb eib HSE
   generalize rd (rd_L5 t.far (ia : Int)) (ib : Int) = d at *
   generalize hPJ : P0 ++ inS t ⟨a0, a1⟩ (i'.take j) = PJ at *
   have HPN : Hid (P0 ++ inS t ⟨a0, a1⟩ (i'.take (j + 1)) = PJ ++ (sumE t ⟨a0, a1⟩ ⟨b0, b1⟩).toList) := Lib.hid (by rw [HIT.out, ← List.append_assoc, hPJ])
   have hib0 : (0 : Int) ≤ (ib : Int) := Int.natCast_nonneg _
   have hib1 : (ib : Int) < (gl : Int) := by omega
   have HX9 := Lib.hid (blk_new wr (.cells #[.int .i64 b0, .int .i64 b1] 37))
   have hB9 : Below wr.heap.size wr (wr.alloc (.cells #[.int .i64 b0, .int .i64 b1] 37)) := (Below.refl _ _).alloc (Nat.le_refl _) _
   have HN9 := Lib.hid (HRi.out.still hJa hB9)
   have HX69 := Lib.hid ((hB9.block _ (blk_lt HXi.out)).trans HXi.out)
   have HPB := Lib.hid (HPL.out _ HN9.out.bel b0)
   rw [eib] at HPB
   clear hB9 HIT hPJ
   have q0 := (blk_cell HN9.out.tb 0).trans rfl
   have q9 := (blk_cell HX9.out 0).trans rfl
   by_cases hd : d = -1
   ·have t0 : (d != -1) = false := by simp [hd]
    have t1 : decide (d = -1) = true := by simp [hd]
    rw [HSE.out, if_pos hd] at HPN
    gi_wp2_with (first | (refine ⟨trivial, ?_⟩; gi_at_call 55; refine (callsIn_wide.2 HPB.out).mono ?_; rintro e w4 ⟨rfl, g4⟩; have HNb := Lib.hid (HN9.out.still hJa g4); have HX6b := Lib.hid ((g4.block _ (blk_lt HX69.out)).trans HX69.out); have qd := HDC.out _ HNb.out.bel; clear g4))
    refine ⟨fun f hf => (by cases hf), ?_⟩
    gi_wp2
    go_roundw
    case measure => simp [intOf]; omega
    case rel => exact ⟨j + 1, by go_num, by omega, by rw [HPN.out]; simpa using HNb, HX6b⟩
   ·have t0 : (d != -1) = true := by simp [hd]
    have t1 : decide (d = -1) = false := by simp [hd]
    rw [HSE.out, if_neg hd] at HPN
    simp only [Option.toList] at HPN
    rw [HPN.out] at HPJ
    have hlt : PJ.length < (sumsP t o i').length := by have := HPJ.out.length_le; rw [List.length_append, List.length_singleton] at this; omega
    have e1 : IntKind.i64.wrap (a1 + d) = a1 + d := i64w rfl (by omega) (by omega)
    have e2 : IntKind.i64.wrap (a1 + d + b1) = a1 + d + b1 := i64w rfl (by omega) (by omega)
    gi_wp2_with (first | (refine ⟨trivial, ?_⟩; gi_at_call 55; refine (callsIn_wide.2 HPB.out).mono ?_; rintro e w4 ⟨rfl, g4⟩; have HNb := Lib.hid (HN9.out.still hJa g4); have HX6b := Lib.hid ((g4.block _ (blk_lt HX69.out)).trans HX69.out); have HX9b := Lib.hid ((g4.block _ (blk_lt HX9.out)).trans HX9.out); have qd := HDC.out _ HNb.out.bel; have y6 := (blk_cell HX6b.out 1).trans rfl; have y9 := (blk_cell HX9b.out 1).trans rfl; obtain ⟨fn, tmps, assign, body, hy, hRd⟩ := hY PJ (a1 + d + b1) w4 HNb.out.inv hlt; clear g4))
    refine hRd.mono ?_
    rintro e W5 (⟨rfl, hJ5, hk5⟩ | ⟨rfl, hJx5⟩)
    ·have HN5 := Lib.hid (HNb.out.step hbb hJ5 hk5)
     have HX65 := Lib.hid (hk5.2 _ _ (by omega) HX6b.out rfl)
     clear hJ5 hk5
     gi_wp2
     go_roundw
     case measure => simp [intOf]; omega
     case rel => exact ⟨j + 1, by go_num, by omega, by rw [HPN.out]; exact HN5, HX65⟩
    ·gi_wp2
     refine bodyPost_ret (results_none rfl _ _ _) rfl ?_
     exact ⟨⟨_, rfl⟩, .inr ⟨_, HPJ.out, hJx5⟩⟩
end Go.Proofs.YtfkejflmhidnaaaGreat.PAll
namespace Go.Proofs.YtfkejflmhidnaaaGreat.PAll
open RowKit YtfkejflmhidnaaaGreatW.PrintWords YtfkejflmhidnaaaGreatW.PrintLast YtfkejflmhidnaaaGreatW.PrintMore
open Hp hiding Good
open Range (SeqCell wpIn_rangeFunc_cell)
attribute [local go_sem] Oper.semAt_some
theorem sums_any (w : World) (cells : Array Value) (hz : cells.size = 6) (s u : Int) :
  Calls Tryz.prog 108 #[.agg cells, .int .i64 s, .int .i64 u] w fun e w' => e = .returned (.func (.func 133) #[] #[.pointer (some ⟨w.heap.size, 0, none⟩), .pointer (some ⟨w.heap.size + 1, 0, none⟩), .pointer (some ⟨w.heap.size + 1 + 1, 0, none⟩)]) ∧
   ((w.alloc (.cells cells 46)).alloc (.cells #[.int .i64 s] 3)).alloc (.cells #[.int .i64 u] 3) = w' := by
 obtain ⟨l⟩ := cells
 match l, hz with
 | [a, b, c, d, e, f], _ =>
  go_enter Tryz.func108, Tryz.ntmps108
  go_wp2
  go_ret
  exact ⟨rfl, rfl⟩
theorem sums_seq (n : Nat) (hn : 1 ≤ n) (B bb : Nat) (w0 : World) (hB : w0.heap.size ≤ B) (hbb : bb ≠ B ∧ bb ≠ B + 1 ∧ bb ≠ B + 1 + 1) (ta : TabAt) (t : TabP) (hT : TabC w0 ta t) (hS : TabSm t) (G : TabGd t) (s u : Nat) (hs : s < t.out.length) (hu : u < t.inn.length)
  (w : World) (hbl : Below w0.heap.size w0 w) (h0 : w.heap[B]? = some (.cells (ta.cells t) 46 (0, 0))) (h1 : w.heap[B + 1]? = some (.cells #[.int .i64 s] 3 (0, 0))) (h2 : w.heap[B + 1 + 1]? = some (.cells #[.int .i64 u] 3 (0, 0))) (hlt : bb < w.heap.size) :
  SeqCell Fence.wide n Tryz.prog 133 #[.pointer (some ⟨B, 0, none⟩), .pointer (some ⟨B + 1, 0, none⟩), .pointer (some ⟨B + 1 + 1, 0, none⟩)] (fun x : Int => #[.int .i64 x]) (KpS w0.heap.size bb)
   (fun ys => ys = sumsP t (t.out.getD s []) (t.inn.getD u [])) (fun pre => pre <+: sumsP t (t.out.getD s []) (t.inn.getD u [])) (sumsP t (t.out.getD s []) (t.inn.getD u [])).length (fun _ => False) w := fun l J Jx W hW hA _ hJc _ hY hJ0 =>
 sums1_in n hn l B bb w0 hB hbb ta t hT hS G s u hs hu J Jx (fun s W W' h g => hA s W W' none h (grown_of_below (g.mono (Nat.le_refl _)) none) (fun r e => by cases e)) hY W
  ⟨(hW.block _ (blk_lt h0)).trans h0, (hW.block _ (blk_lt h1)).trans h1, (hW.block _ (blk_lt h2)).trans h2, hbl.trans (hW.mono hbl.size), Nat.lt_of_lt_of_le hlt hW.size, hJ0⟩
structure ByI (w : World) (bb : Nat) (pre : List Int) (W : World) : Prop where
 best : Boxed W bb 3 (.int .i64 (bestL pre))
 below : Below w.heap.size w W
theorem ByI.own (w : World) (bb B : Nat) (hw : w.heap.size ≤ bb) (hB : bb < B) : OwnFrom B (fun pre W => ByI w bb pre W) := by
 rintro pre W W' row ⟨h1, h3⟩ hg hrow
 have hcell : ∀ k o, W.heap[k]? = some o → o.isCells = true → some k ≠ row := fun k o hk ho e => by
  obtain ⟨_, o', ho', hc⟩ := hrow k e.symm
  rw [hk] at ho'; cases ho'
  rw [ho] at hc; cases hc
 exact ⟨h1.kept hg (hcell _ _ h1 rfl), h3.grown hg h3.size (fun k e => by have := (hrow k e).1; omega)⟩
theorem ByI.step {w W : World} {bb : Nat} {pre : List Int} {x : Int} (h : ByI w bb pre W) (hw : w.heap.size ≤ bb) (hs : bestS (bestL pre) x = x) :
  KeepsOthers W (W.setCell ⟨bb, 0, none⟩ (.int .i64 x)) ∧ KpS w.heap.size bb W (W.setCell ⟨bb, 0, none⟩ (.int .i64 x)) ∧ ByI w bb (pre ++ [x]) (W.setCell ⟨bb, 0, none⟩ (.int .i64 x)) := by
 have hb : Below w.heap.size W (W.setCell ⟨bb, 0, none⟩ (.int .i64 x)) := (Below.refl _ W).setCell (p := ⟨bb, 0, none⟩) hw _
 refine ⟨KeepsOthers.setCell _ _ _, ⟨hb, fun k o hk ho _ => (Below.heap_setCell _ ⟨bb, 0, none⟩ _ k hk).trans ho⟩, ⟨?_, h.below.trans hb⟩⟩
 rw [best_take, hs]
 exact h.best.set _
theorem ByI.stay {w W : World} {bb : Nat} {pre : List Int} {x : Int} (h : ByI w bb pre W) (hs : bestS (bestL pre) x = bestL pre) :
  KeepsOthers W W ∧ KpS w.heap.size bb W W ∧ ByI w bb (pre ++ [x]) W :=
 ⟨KeepsOthers.refl _, ⟨Below.refl _ _, fun k o _ h _ => h⟩, ⟨by rw [best_take, hs]; exact h.best, h.below⟩⟩
theorem wp_only {P : Program} {c : Code} {K : Act → World → Prop} {Q : Exit → Act → World → Prop} {a : Act} {w : World} (h : c.wp P (Exit.then K (fun _ _ _ => False)) a w) : c.wp P (Exit.then K Q) a w :=
 Code.wp_mono (by rintro e a w h; cases e <;> first | exact h | exact h.elim) h
set_option maxRecDepth 100000 in
set_option maxHeartbeats 4000000 in
theorem by_walk (w : World) (ta : TabAt) (t : TabP) (hT : TabC w ta t) (hS : TabSm t) (G : TabGd t) (s u : Nat) (hs : s < t.out.length) (hu : u < t.inn.length) (hss : s < t.so.length) (huu : u < t.si.length) :
  Calls Tryz.prog 68 #[.agg (ta.cells t), .int .i64 s, .int .i64 u] w fun r w' => r = .returned (.tuple #[.int .i64 (byP t s u).1, .bool (byP t s u).2]) ∧ Below w.heap.size w w' := by
 obtain ⟨ao, O, oc, hA4, ro, hoc, hCO⟩ := at_rowZ hT.so s hss
 obtain ⟨ai, I, ic, hA5, ri, hic, hCI⟩ := at_rowZ hT.si u huu
 have hms : rd_L5 t.so (s : Int) ∈ t.so := by rw [rdL5_get hss]; exact List.getElem_mem _
 have hmi : rd_L5 t.si (u : Int) ∈ t.si := by rw [rdL5_get huu]; exact List.getElem_mem _
 have HLO : Hid (∀ W, Below w.heap.size w W → Calls Tryz.prog 17 #[.slice O (rd_L5 t.so (s : Int)).length oc, .slice I (rd_L5 t.si (u : Int)).length ic] W fun r w' => r = .returned (.bool (localP (rd_L5 t.so (s : Int)) (rd_L5 t.si (u : Int)))) ∧ Below W.heap.size W w') := Lib.hid (fun W g =>
  local_walk W O I oc ic _ _ (Kd.C_below hCO g) hoc (Kd.C_below hCI g) hic (G.sip _ hmi) (hS.sis _ hmi) (hS.sos _ hms))
 have HSEQ := Lib.hid (fun B bb hB hbb W hbl h0 h1 h2 hlt => sums_seq 5 (by omega) B bb w hB hbb ta t hT hS G s u hs hu W hbl h0 h1 h2 hlt)
 have HNN := Lib.hid (sum_nn G (G.out _ (show t.out.getD s [] ∈ t.out by rw [List.getD_eq_getElem?_getD, List.getElem?_eq_getElem hs]; exact List.getElem_mem hs)) (G.inn _ (show t.inn.getD u [] ∈ t.inn by rw [List.getD_eq_getElem?_getD, List.getElem?_eq_getElem hu]; exact List.getElem_mem hu)))
 have HBY : Hid (byP t s u = if localP (rd_L5 t.so (s : Int)) (rd_L5 t.si (u : Int)) = true then (-1, true) else (bestL (sumsP t (t.out.getD s []) (t.inn.getD u [])), false)) := Lib.hid rfl
 have HROW : Hid (∀ W, Below w.heap.size w W → W.cell? (ao.add s) = some (.slice O (rd_L5 t.so (s : Int)).length oc) ∧ W.cell? (ai.add u) = some (.slice I (rd_L5 t.si (u : Int)).length ic)) := Lib.hid (fun W g => ⟨(g.cell (World.block_lt_of_cell? _ _ ro)).trans ro, (g.cell (World.block_lt_of_cell? _ _ ri)).trans ri⟩)
 have hsl := hS.so
 have htl := hS.si
 clear hT hS G hCO hCI ro ri hms hmi hs hu
 generalize sumsP t (t.out.getD s []) (t.inn.getD u []) = SL at *
 generalize localP (rd_L5 t.so (s : Int)) (rd_L5 t.si (u : Int)) = LB at *
 generalize byP t s u = BY at *
 generalize (rd_L5 t.so (s : Int)).length = ol at *
 generalize (rd_L5 t.si (u : Int)).length = il at *
 obtain ⟨A0, c0, A1, c1, A2, c2, A3, c3, A4, c4, A5, c5⟩ := ta
 simp only [TabAt.cells] at HSEQ hA4 hA5 ⊢
 subst hA4 hA5
 generalize t.g.length = gl at *
 generalize t.far.length = fl at *
 generalize t.out.length = no at *
 generalize t.inn.length = ni at *
 generalize t.so.length = sl at *
 generalize t.si.length = tl at *
 have hs0 : (0 : Int) ≤ (s : Int) := Int.natCast_nonneg _
 have hs1 : (s : Int) < (sl : Int) := by omega
 have hu0 : (0 : Int) ≤ (u : Int) := Int.natCast_nonneg _
 have hu1 : (u : Int) < (tl : Int) := by omega
 have HB0 : Hid (Below w.heap.size w (w.alloc (.cells #[.slice A0 gl c0, .slice A1 fl c1, .slice A2 no c2, .slice A3 ni c3, .slice (some ao) sl c4, .slice (some ai) tl c5] 46))) := Lib.hid ((Below.refl _ _).alloc (Nat.le_refl _) _)
 have HX0 := Lib.hid (blk_new w (.cells #[.slice A0 gl c0, .slice A1 fl c1, .slice A2 no c2, .slice A3 ni c3, .slice (some ao) sl c4, .slice (some ai) tl c5] 46))
 refine (callsIn_wide (n := 6)).1 ?_
 refine callsIn_of_wp_marks Tryz.func68 rfl trivial ?_ rfl
 simp only [Tryz.ntmps68, List.size_toArray, List.length_cons, List.length_nil, Nat.reduceAdd, Nat.reduceSub, Array.replicate_succ, Array.replicate_zero, List.push_toArray, List.append_toArray, List.nil_append, List.cons_append]
 gi_wp2
 refine wpIn_wide.2 (wp_scope_straight ((wpIn_wide (n := 6)).1 ?_))
 gi_wp2
 generalize w.alloc (.cells #[.slice A0 gl c0, .slice A1 fl c1, .slice A2 no c2, .slice A3 ni c3, .slice (some ao) sl c4, .slice (some ai) tl c5] 46) = W1 at *
 have q4 := (blk_cell HX0.out 4).trans rfl
 have q5 := (blk_cell HX0.out 5).trans rfl
 have qo := (HROW.out W1 HB0.out).1
 have qi := (HROW.out W1 HB0.out).2
 have HLC := Lib.hid (HLO.out W1.drew HB0.out.drew)
 refine wpIn_wide.2 (wp_only ?_)
 refine start_ (n := 11) (S := fun w' => w'.cell? ⟨w.heap.size, 4, none⟩ = some (.slice (some ao) sl c4) ∧ w'.cell? ⟨w.heap.size, 5, none⟩ = some (.slice (some ai) tl c5) ∧ w'.cell? (ao.add s) = some (.slice O ol oc) ∧ w'.cell? (ai.add u) = some (.slice I il ic)) (ds := [10]) (bA_ 11 0) (by kernel_rfl) rfl rfl ⟨q4, q5, qo, qi⟩ (fun hHeld => ?_)
 refine p2_ 0 10 (bA_ 11 1) ?_
 refine p2_ 2 12 (bA_ 11 5) ?_
 refine p2_ 5 15 (bA_ 11 37) ?_
 refine p2_ 7 17 (bA_ 11 165) ?_
 refine t2_ 1 11 (bA_ 11 167) hHeld ?_ (hy := by rintro w' ⟨s0, s1, s2, s3⟩; go_simp; with_reducible rfl)
 refine p2_ 3 13 (bA_ 11 175) ?_
 refine t2_ 4 14 (bA_ 11 191) hHeld ?_ (hy := by rintro w' ⟨s0, s1, s2, s3⟩; go_simp; with_reducible rfl)
 refine t2_ 6 16 (bA_ 11 255) hHeld ?_ (hy := by rintro w' ⟨s0, s1, s2, s3⟩; go_simp; with_reducible rfl)
 refine p2_ 8 18 (bA_ 11 511) ?_
 refine t2_ 9 19 (bA_ 11 1023) hHeld ?_ (hy := by rintro w' ⟨s0, s1, s2, s3⟩; go_simp; with_reducible rfl)
 refine last_ (i := 10) (N := some 20) (bA_ 11 2047) rfl rfl (by kernel_rfl) (by decide) (fun K hK => ?_)
 refine goes_ Tryz.func17 (by kernel_rfl) rfl #[.slice O ol oc, .slice I il ic] (by rfl) rfl rfl (by simp only [List.map_toArray, List.map_cons, List.map_nil]; rfl) ?_
 with_reducible refine (HLC.out).mono ?_
 rintro e w3 ⟨rfl, g3⟩
 refine ⟨_, rfl, ?_⟩
 have HG3 := Lib.hid (HB0.out.drew.trans (g3.mono HB0.out.size))
 have HX3 := Lib.hid ((g3.block _ (blk_lt HX0.out)).trans HX0.out)
 clear g3
 refine hK.out _ _ ?_
 clear hK K
 refine norm_ (a' := ?_) ?_ ?_
 rotate_left
 ·show Act.put _ (some 20) _ = _
  simp only [zN_]
  rfl
 refine done_ (by kernel_rfl) ?_
 clear q4 q5 qo qi HLC
 cases LB with
 | true =>
  have HE : Hid (BY = (-1, true)) := Lib.hid (by rw [HBY.out]; rfl)
  gi_wp2
  refine ⟨_, results_tmp2 rfl _ _ _, ?_⟩
  exact ⟨by rw [HE.out]; rfl, HG3.out⟩
 | false =>
  have HE : Hid (BY = (bestL SL, false)) := Lib.hid (by rw [HBY.out]; rfl)
  gi_wp2
  refine wpIn_label ?_
  have HX4 := Lib.hid (blk_alloc HX3.out (.cells #[.int .i64 (-1)] 3))
  have HB4 := Lib.hid (HG3.out.alloc HG3.out.size (.cells #[.int .i64 (-1)] 3))
  have HBX : Hid (Boxed (w3.alloc (.cells #[.int .i64 (-1)] 3)) w3.heap.size 3 (.int .i64 (-1))) := Lib.hid (Boxed.new w3 3 (.int .i64 (-1)))
  have hz : (w3.alloc (.cells #[.int .i64 (-1)] 3)).heap.size = w3.heap.size + 1 := World.size_alloc _ _
  have hwb : w.heap.size < w3.heap.size := blk_lt HX3.out
  generalize w3.alloc (.cells #[.int .i64 (-1)] 3) = W4 at *
  generalize w3.heap.size = bb at *
  clear HX3 HG3
  have q0 := (blk_cell HX4.out 0).trans rfl
  have q1 := (blk_cell HX4.out 1).trans rfl
  have q2 := (blk_cell HX4.out 2).trans rfl
  have q3 := (blk_cell HX4.out 3).trans rfl
  have q4 := (blk_cell HX4.out 4).trans rfl
  have q5 := (blk_cell HX4.out 5).trans rfl
  have ql := blk_lt HX4.out
  gi_wp2_with (refine ⟨trivial, ?_⟩; gi_at_call 108; refine (callsIn_wide.2 (sums_any W4 #[.slice A0 gl c0, .slice A1 fl c1, .slice A2 no c2, .slice A3 ni c3, .slice (some ao) sl c4, .slice (some ai) tl c5] rfl s u)).mono ?_; rintro e w' ⟨rfl, hW⟩)
  clear q0 q1 q2 q3 q4 q5 ql
  have kB : Below w.heap.size w w' := by rw [← hW]; exact ((HB4.out.alloc HB4.out.size _).alloc (by simp; omega) _).alloc (by simp; omega) _
  have kS : w'.heap.size = bb + 4 := by rw [← hW]; simp; omega
  have k0 : w'.heap[W4.heap.size]? = some (.cells #[.slice A0 gl c0, .slice A1 fl c1, .slice A2 no c2, .slice A3 ni c3, .slice (some ao) sl c4, .slice (some ai) tl c5] 46 (0, 0)) := by rw [← hW]; exact blk_alloc (blk_alloc (blk_new W4 _) _) _
  have k1 : w'.heap[W4.heap.size + 1]? = some (.cells #[.int .i64 s] 3 (0, 0)) := by
   rw [← hW]
   have := blk_new (W4.alloc (.cells #[.slice A0 gl c0, .slice A1 fl c1, .slice A2 no c2, .slice A3 ni c3, .slice (some ao) sl c4, .slice (some ai) tl c5] 46)) (.cells #[.int .i64 s] 3)
   rw [World.size_alloc] at this
   exact blk_alloc this _
  have k2 : w'.heap[W4.heap.size + 1 + 1]? = some (.cells #[.int .i64 u] 3 (0, 0)) := by
   rw [← hW]
   have := blk_new ((W4.alloc (.cells #[.slice A0 gl c0, .slice A1 fl c1, .slice A2 no c2, .slice A3 ni c3, .slice (some ao) sl c4, .slice (some ai) tl c5] 46)).alloc (.cells #[.int .i64 s] 3)) (.cells #[.int .i64 u] 3)
   rw [World.size_alloc, World.size_alloc] at this
   exact this
  have kb : Boxed w' bb 3 (.int .i64 (-1)) := by rw [← hW]; exact ((HBX.out.alloc _).alloc _).alloc _
  clear hW
  rw [hz] at k0 k1 k2
  refine wpIn_rangeFunc_cell (Cs := fun _ => False) rfl (by omega) (gf := 133) (lb := #[.pointer (some ⟨bb + 1, 0, none⟩), .pointer (some ⟨bb + 1 + 1, 0, none⟩), .pointer (some ⟨bb + 1 + 1 + 1, 0, none⟩)]) rfl trivial (enters_of Tryz.func133 (by kernel_rfl) rfl)
   (fun c hc => hc.elim) (HSEQ.out (bb + 1) bb (by omega) (by omega) w' kB k0 k1 k2 (by omega))
   (fun h k => h.trans k) (fun W l o o' hl ho hc _ => ⟨below_put o' (Below.refl _ _) (by omega), fun k ob _ hk hkc => (World.putObj_heap_other (fun e => by subst e; rw [ho] at hk; cases hk; rw [hc] at hkc; cases hkc)).trans hk⟩) (Below.refl _ _) (fun _ => rfl)
   (ByI w bb) (fun c pre W => c = .exit 0 ∧ bestL pre = 0 ∧ ByI w bb pre W) (fun c hc => hc.elim) (fun c hc => hc.elim) (ByI.own w bb _ (by omega) (by omega)) (fun c pre W W' row h hg hr => ⟨h.1, h.2.1, ByI.own w bb _ (by omega) (by omega) pre W W' row h.2.2 hg hr⟩)
   ⟨kb, kB⟩
   (fun x W => { tmps := #[.agg #[.slice A0 gl c0, .slice A1 fl c1, .slice A2 no c2, .slice A3 ni c3, .slice (some ao) sl c4, .slice (some ai) tl c5], .int .i64 s, .int .i64 u, .pointer (some ⟨w.heap.size, 0, none⟩), undef, undef, .int .i64 0, .bool false, .pointer (some ⟨bb, 0, none⟩), .int .i64 x,
     .pointer (some ⟨w.heap.size, 4, none⟩), .slice (some ao) sl c4, .int .i64 s, .pointer (some (ao.add s)), .slice O ol oc, .pointer (some ⟨w.heap.size, 5, none⟩), .slice (some ai) tl c5, .int .i64 u, .pointer (some (ai.add u)), .slice I il ic, .bool false,
     .agg #[.slice A0 gl c0, .slice A1 fl c1, .slice A2 no c2, .slice A3 ni c3, .slice (some ao) sl c4, .slice (some ai) tl c5], .int .i64 s, .int .i64 u, .func (.func 133) #[] #[.pointer (some ⟨bb + 1, 0, none⟩), .pointer (some ⟨bb + 1 + 1, 0, none⟩), .pointer (some ⟨bb + 1 + 1 + 1, 0, none⟩)], .int .i64 x, undef, undef, undef, undef, undef, undef, undef, undef, undef, undef, undef], defers := [] })
   (fun x W => W) (fun x W => grown_of_below (Below.refl _ W) none) (fun x W hs => ⟨Below.refl _ _, fun k o _ h _ => h⟩) ?assign ?body ?done ?stop
  case assign =>
   intro l x W K hK
   gi_wp2
   exact hK
  case body =>
   rintro l pre x W W2 hsz hnew hsz2 ⟨I1, I3⟩ hlt
   have p0 := I1.cell
   have pf := I1.frozen
   have pl := I1.lt
   have HI : Hid (ByI w bb pre W2) := Lib.hid ⟨I1, I3⟩
   clear hnew hsz2 I1 I3
   generalize hF : bestL pre = b at *
   have HF := Lib.hid hF
   clear hF
   by_cases hs : b = -1 ∨ x < b
   ·have HFIN := Lib.hid (HI.out.step (x := x) (by omega) (by rw [HF.out]; unfold bestS; rw [if_pos hs]))
    have HB0' : Hid (bestL (pre ++ [x]) = x) := Lib.hid (by rw [best_take, HF.out]; unfold bestS; rw [if_pos hs])
    by_cases h0 : x = 0
    ·have e0 : (x == 0) = true := by simp [h0]
     have e1 : decide (x = 0) = true := by simp [h0]
     have HZ : Hid (bestL (pre ++ [x]) = 0) := Lib.hid (by rw [HB0'.out, h0])
     by_cases hb1 : b = -1
     ·have e2 : (b == -1) = true := by simp [hb1]
      have e3 : decide (b = -1) = true := by simp [hb1]
      clear h0 hs hb1
      gi_wp2
      exact ⟨HFIN.out.1, rfl, HZ.out, HFIN.out.2.2⟩
     ·have e2 : (b == -1) = false := by simp [hb1]
      have e3 : decide (b = -1) = false := by simp [hb1]
      have e4 : decide (x < b) = true := decide_eq_true (hs.resolve_left hb1)
      clear h0 hs hb1
      gi_wp2
      exact ⟨HFIN.out.1, rfl, HZ.out, HFIN.out.2.2⟩
    ·have e0 : (x == 0) = false := by simp [h0]
     have e1 : decide (x = 0) = false := by simp [h0]
     by_cases hb1 : b = -1
     ·have e2 : (b == -1) = true := by simp [hb1]
      have e3 : decide (b = -1) = true := by simp [hb1]
      clear h0 hs hb1
      gi_wp2
      exact HFIN.out
     ·have e2 : (b == -1) = false := by simp [hb1]
      have e3 : decide (b = -1) = false := by simp [hb1]
      have e4 : decide (x < b) = true := decide_eq_true (hs.resolve_left hb1)
      clear h0 hs hb1
      gi_wp2
      exact HFIN.out
   ·have HFIN := Lib.hid (HI.out.stay (x := x) (by rw [HF.out]; unfold bestS; rw [if_neg hs]))
    have HB0' : Hid (bestL (pre ++ [x]) = b) := Lib.hid (by rw [best_take, HF.out]; unfold bestS; rw [if_neg hs])
    have hb1 : ¬ b = -1 := fun e => hs (.inl e)
    have e2 : (b == -1) = false := by simp [hb1]
    have e3 : decide (b = -1) = false := by simp [hb1]
    have e4 : decide (x < b) = false := decide_eq_false (fun e => hs (.inr e))
    by_cases h0 : b = 0
    ·have e0 : (b == 0) = true := by simp [h0]
     have e1 : decide (b = 0) = true := by simp [h0]
     have HZ : Hid (bestL (pre ++ [x]) = 0) := Lib.hid (by rw [HB0'.out, h0])
     clear h0 hs hb1
     gi_wp2
     exact ⟨HFIN.out.1, rfl, HZ.out, HFIN.out.2.2⟩
    ·have e0 : (b == 0) = false := by simp [h0]
     have e1 : decide (b = 0) = false := by simp [h0]
     clear h0 hs hb1
     gi_wp2
     exact HFIN.out
  case done =>
   rintro D ys W hD rfl ⟨I1, I3⟩ hK
   have p0 := I1.cell
   have pl := I1.lt
   have HFIN : Hid (Below w.heap.size w W) := Lib.hid I3
   clear I1 I3
   gi_wp2
   refine ⟨by simp, .inl ⟨_, _, rfl, run_takeDeferred hK, ?_⟩⟩
   refine ⟨_, results_tmp2 rfl _ _ _, ?_⟩
   exact ⟨by rw [HE.out]; rfl, below_put _ HFIN.out (by omega)⟩
  case stop =>
   rintro D c pre W hD hpre ⟨rfl, hz0, I1, I3⟩ hK
   have p0 := I1.cell
   have pl := I1.lt
   have HFIN : Hid (Below w.heap.size w W) := Lib.hid I3
   have HZ0 : Hid (bestL pre = bestL SL) := Lib.hid (by rw [hz0, best_zero hpre HNN.out hz0])
   clear I1 I3
   rw [HZ0.out] at p0
   gi_wp2
   refine ⟨by simp, .inl ⟨_, _, rfl, run_takeDeferred hK, ?_⟩⟩
   refine ⟨_, results_tmp2 rfl _ _ _, ?_⟩
   exact ⟨by rw [HE.out]; rfl, below_put _ HFIN.out (by omega)⟩
end Go.Proofs.YtfkejflmhidnaaaGreat.PAll
namespace Go.Proofs.YtfkejflmhidnaaaGreat.PAll
open RowKit YtfkejflmhidnaaaGreatW.PrintWords YtfkejflmhidnaaaGreatW.PrintLast YtfkejflmhidnaaaGreatW.PrintMore
open Hp hiding Good
set_option maxRecDepth 100000 in
set_option maxHeartbeats 4000000 in
theorem tby_walk (w : World) (ta : TabAt) (t : TabP) (hT : TabC w ta t) (hS : TabSm t) (G : TabGd t) (n : Nat) (hno : t.out.length = n) (hni : t.inn.length = n) (hns : t.so.length = n) (hnt : t.si.length = n) (hck : checkP n t = 0) (s u : Nat) (hs : s < n) (hu : u < n) :
  Calls Tryz.prog 29 #[.agg (ta.cells t), .int .i64 s, .int .i64 u] w fun r w' => r = .returned (.tuple #[.int .i64 (byP t s u).1, .bool (byP t s u).2]) ∧ Below w.heap.size w w' := by
 have hn6 : n ≤ 1000000 := by have := hS.out; omega
 have HCK : Hid (∀ W, Below w.heap.size w W → Calls Tryz.prog 24 #[.int .i64 n, .agg (ta.cells t)] W fun r w' => r = .returned (.int .i64 0) ∧ Below W.heap.size W w') := Lib.hid (fun W g => by
  have := tcheck_walk W ta t n (hT.below g) hS
  rw [hck] at this
  exact this)
 have HBY : Hid (∀ W, Below w.heap.size w W → Calls Tryz.prog 68 #[.agg (ta.cells t), .int .i64 s, .int .i64 u] W fun r w' => r = .returned (.tuple #[.int .i64 (byP t s u).1, .bool (byP t s u).2]) ∧ Below W.heap.size W w') := Lib.hid (fun W g =>
  by_walk W ta t (hT.below g) hS G s u (by omega) (by omega) (by omega) (by omega))
 clear hT hS G hck
 generalize byP t s u = BY at *
 obtain ⟨A0, c0, A1, c1, A2, c2, A3, c3, A4, c4, A5, c5⟩ := ta
 simp only [TabAt.cells, hno, hni, hns, hnt] at HCK HBY ⊢
 clear hno hni hns hnt
 generalize t.g.length = gl at *
 generalize t.far.length = fl at *
 have hs0 : (0 : Int) ≤ (s : Int) := Int.natCast_nonneg _
 have hu0 : (0 : Int) ≤ (u : Int) := Int.natCast_nonneg _
 have hs1 : (s : Int) < (n : Int) := by omega
 have hu1 : (u : Int) < (n : Int) := by omega
 have HB0 : Hid (Below w.heap.size w (w.alloc (.cells #[.slice A0 gl c0, .slice A1 fl c1, .slice A2 n c2, .slice A3 n c3, .slice A4 n c4, .slice A5 n c5] 46))) := Lib.hid ((Below.refl _ _).alloc (Nat.le_refl _) _)
 have HX0 := Lib.hid (blk_new w (.cells #[.slice A0 gl c0, .slice A1 fl c1, .slice A2 n c2, .slice A3 n c3, .slice A4 n c4, .slice A5 n c5] 46))
 have q0 := (blk_cell HX0.out 0).trans rfl
 have q1 := (blk_cell HX0.out 1).trans rfl
 have q2 := (blk_cell HX0.out 2).trans rfl
 have q3 := (blk_cell HX0.out 3).trans rfl
 have q4 := (blk_cell HX0.out 4).trans rfl
 have q5 := (blk_cell HX0.out 5).trans rfl
 have ql := blk_lt HX0.out
 go_enter Tryz.func29, Tryz.ntmps29
 go_upto_region 1 with fail
 generalize w.alloc (.cells #[.slice A0 gl c0, .slice A1 fl c1, .slice A2 n c2, .slice A3 n c3, .slice A4 n c4, .slice A5 n c5] 46) = W1 at *
 have HC1 := Lib.hid (HCK.out W1 HB0.out)
 go_upto_region 4 with (first | (go_at_call 24; refine HC1.out.mono ?_; rintro e W2 ⟨rfl, g2⟩; have HB2 := Lib.hid (HB0.out.trans (g2.mono HB0.out.size)); have HX2 := Lib.hid ((g2.block _ (blk_lt HX0.out)).trans HX0.out); clear g2))
 all_goals clear q0 q1 q2 q3 q4 q5 ql
 all_goals (have q0 := (blk_cell HX2.out 0).trans rfl; have q1 := (blk_cell HX2.out 1).trans rfl; have q2 := (blk_cell HX2.out 2).trans rfl; have q3 := (blk_cell HX2.out 3).trans rfl; have q4 := (blk_cell HX2.out 4).trans rfl; have q5 := (blk_cell HX2.out 5).trans rfl; have ql := blk_lt HX2.out; have HC2 := Lib.hid (HBY.out W2 HB2.out))
 all_goals go_wp2_with (first | (go_at_call 68; refine HC2.out.mono ?_; rintro e W3 ⟨rfl, g3⟩; have HB3 := Lib.hid (HB2.out.trans (g3.mono HB2.out.size)); clear g3))
 all_goals (try rw [Exit.noGoto_ret])
 all_goals (refine bodyPost_ret (results_tmp2 rfl _ _ _) rfl ?_)
 all_goals exact ⟨rfl, HB3.out⟩
end Go.Proofs.YtfkejflmhidnaaaGreat.PAll
