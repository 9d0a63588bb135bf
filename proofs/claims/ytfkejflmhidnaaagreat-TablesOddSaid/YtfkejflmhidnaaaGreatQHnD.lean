import Derived.Test.YtfkejflmhidnaaaGreatQClC
import Derived.DeepKeys4
set_option linter.all false
namespace Go.Proofs.YtfkejflmhidnaaaGreat.PAll
open RowKit YtfkejflmhidnaaaGreatW.PrintWords YtfkejflmhidnaaaGreatW.PrintLast YtfkejflmhidnaaaGreatW.PrintMore
open Hp hiding Good
theorem laidOut : laidOutB Tryz.prog = true := by kernel_rfl
theorem row127 : (151 : TypeId) < Tryz.prog.types.size := of_decide_eq_true (by kernel_rfl)
theorem wide127 : (match Tryz.prog.underlying 151 with | some (.array _ _) | some (.struct _) => true | _ => false) = true := by kernel_rfl
set_option maxRecDepth 100000 in
theorem law127 : WideMaps.KeyLaw Tryz.prog 151 := deep_law_laid laidOut (m := 2) (by omega) row127 (by kernel_rfl) wide127
theorem key127 : Maps.Keyed Tryz.prog 151 := Maps.Keyed.of_law law127
theorem cells127 : Tryz.prog.cellsOf 151 = 2 := by kernel_rfl
theorem cells3 : Tryz.prog.cellsOf 3 = 1 := by kernel_rfl
theorem keyType127 : Tryz.prog.keyType 151 = true := by kernel_rfl
theorem keyLits3 (d : Nat) (a : Int) (ha : (Lit.int .i64 a).wf = true) : Tryz.prog.keyLits (d + 1) 3 [.int .i64 a] = some [.int .i64 a] := by
 unfold Program.keyLits
 rw [Tryz.underlying3]
 simp [ha]
theorem keyLits127 (d : Nat) (a b : Int) (ha : (Lit.int .i64 a).wf = true) (hb : (Lit.int .i64 b).wf = true) : Tryz.prog.keyLits (d + 2) 151 [.int .i64 a, .int .i64 b] = some [.int .i64 a, .int .i64 b] := by
 unfold Program.keyLits
 rw [Tryz.underlying151]
 simp [cells127, cells3, keyLits3 d a ha, keyLits3 d b hb]
theorem ends_key (a b : Int) (ha : (Lit.int .i64 a).wf = true) (hb : (Lit.int .i64 b).wf = true) : ∃ l, keyOf Tryz.prog 151 (.agg #[.int .i64 a, .int .i64 b]) = some l := by
 unfold keyOf
 rw [Tryz.underlying151]
 simp [keyType127, Value.formed, Tryz.underlying151, cells127, Value.cells, keyLits127 _ a b ha hb]
def MapE (w : World) (b n : Nat) (f : Int → Int → Option Int) : Prop :=
 ∃ D : DataW Unit, w.ownsMap Tryz.prog 151 (plainElem Tryz.prog 3) b n D ∧ Maps.IsMap D ∧
  ∀ (x y : Int) (l : Lit), keyOf Tryz.prog 151 (.agg #[.int .i64 x, .int .i64 y]) = some l → (Maps.has D l = (f x y).isSome) ∧ ∀ z, D.atKey l z = match f x y with
   | some v => .lit (.int .i64 v)
   | none => z
def upd2 (f : Int → Int → Option Int) (x y v : Int) : Int → Int → Option Int := fun a b => if a = x ∧ b = y then some v else f a b
theorem MapE.made (w : World) : MapE (w.alloc (.map #[] 0)) w.heap.size 0 (fun _ _ => none) :=
 ⟨.map [], World.ownsMap_made w _ _ _, Maps.isMap_empty, fun x y l _ => ⟨rfl, fun z => rfl⟩⟩
theorem MapE.only {w w' : World} {b n : Nat} {f : Int → Int → Option Int} {S : Nat → Prop} (h : MapE w b n f) (g : Only w w' S) (hs : ¬ S b) : MapE w' b n f := by
 obtain ⟨D, ⟨es, clock, h1, h2⟩, h3⟩ := h
 exact ⟨D, ⟨es, clock, (g.block b (Array.getElem?_eq_some_iff.1 h1).1 hs).trans h1, h2⟩, h3⟩
section
variable {ops : Array Oper} {rest : List Oper} {o : Oper} {a : Act} {Q : Exit → Act → World → Prop} {w : World}
theorem mapE_put (hg : o.guard = none) (m x v : Operand) (hop : o.op = Op.mapUpdate 65 m x v) (b n : Nat) (f : Int → Int → Option Int) (hm : a.eval m = .map (some b)) (H : MapE w b n f) (hn : n < maxLen) (xk yk xv : Int)
  (hx : a.eval x = .agg #[.int .i64 xk, .int .i64 yk]) (hv : a.eval v = .int .i64 xv) (wk : (Lit.int .i64 xk).wf = true) (wy : (Lit.int .i64 yk).wf = true) (wv : (Lit.int .i64 xv).wf = true)
  (hK : ∀ w', MapE w' b (n + 1) (upd2 f xk yk xv) → w.grownBy w' (some b) → wpList Tryz.prog ops Q rest (a.put o.dst undef) w') : wpList Tryz.prog ops Q (o :: rest) a w := by
 obtain ⟨D, h1, h2, h3⟩ := H
 obtain ⟨l, hl⟩ := ends_key xk yk wk wy
 refine wpList_mapUpdate_own w hg m x v 65 hop 151 3 key127 Tryz.underlying65 _ b n D hm h1 hn _ _ _ hx hv hl _ [] (plainElem_int Tryz.underlying3 wv) ?_
 intro w' h4 h5
 refine hK w' ⟨_, h4, h2.put _ _, fun p q r hr => ?_⟩ h5
 have hkl : WideAt.IsKeyLit l := key127.key hl
 by_cases e : r = l
 ·subst e
  have := key127.inj hr hl
  simp only [Value.agg.injEq, Array.mk.injEq, List.cons.injEq, Value.int.injEq, true_and, and_true] at this
  obtain ⟨rfl, rfl⟩ := this
  refine ⟨?_, fun z => ?_⟩
  ·rw [Maps.has_put_same h2 hkl]; simp [upd2]
  ·rw [Maps.atKey_put_same h2 hkl]; simp [upd2]
 ·have hne : ¬ (p = xk ∧ q = yk) := fun f => by
   obtain ⟨rfl, rfl⟩ := f
   rw [hl] at hr
   exact e (Option.some.inj hr).symm
  refine ⟨?_, fun z => ?_⟩
  ·rw [Maps.has_put_other e, (h3 p q r hr).1]; simp only [upd2, if_neg hne]
  ·rw [Maps.atKey_put_other e, (h3 p q r hr).2]; simp only [upd2, if_neg hne]
theorem mapE_look (hg : o.guard = none) (m x : Operand) (hop : o.op = Op.lookup 65 m x true) (b n : Nat) (f : Int → Int → Option Int) (hm : a.eval m = .map (some b)) (H : MapE w b n f) (xk yk : Int)
  (hx : a.eval x = .agg #[.int .i64 xk, .int .i64 yk]) (wk : (Lit.int .i64 xk).wf = true) (wy : (Lit.int .i64 yk).wf = true)
  (hK : wpList Tryz.prog ops Q rest (a.put o.dst (.tuple #[.int .i64 ((f xk yk).getD 0), .bool (f xk yk).isSome])) w) : wpList Tryz.prog ops Q (o :: rest) a w := by
 obtain ⟨D, h1, h2, h3⟩ := H
 obtain ⟨l, hl⟩ := ends_key xk yk wk wy
 refine wpList_lookup_own_ok_int w hg m x 65 hop 151 3 .i64 key127 Tryz.underlying65 Tryz.underlying3 (zero3 w) b n D hm h1 _ _ hx hl ?_
 intro c hc _
 rw [(h3 xk yk l hl).1]
 rw [(h3 xk yk l hl).2] at hc
 cases hf : f xk yk with
 | none =>
  rw [hf] at hc hK
  simp only at hc
  injection hc with hc
  injection hc with _ hc
  subst hc
  exact hK
 | some y =>
  rw [hf] at hc hK
  simp only at hc
  injection hc with hc
  injection hc with _ hc
  subst hc
  exact hK
theorem mapE_none (hg : o.guard = none) (m x : Operand) (hop : o.op = Op.lookup 65 m x true) (b n : Nat) (f : Int → Int → Option Int) (hm : a.eval m = .map (some b)) (H : MapE w b n f) (xk yk : Int)
  (hx : a.eval x = .agg #[.int .i64 xk, .int .i64 yk]) (wk : (Lit.int .i64 xk).wf = true) (wy : (Lit.int .i64 yk).wf = true) (hf : f xk yk = none)
  (hK : wpList Tryz.prog ops Q rest (a.put o.dst (.tuple #[.int .i64 0, .bool false])) w) : wpList Tryz.prog ops Q (o :: rest) a w :=
 mapE_look hg m x hop b n f hm H xk yk hx wk wy (by rw [hf]; exact hK)
theorem mapE_some (hg : o.guard = none) (m x : Operand) (hop : o.op = Op.lookup 65 m x true) (b n : Nat) (f : Int → Int → Option Int) (hm : a.eval m = .map (some b)) (H : MapE w b n f) (xk yk d : Int)
  (hx : a.eval x = .agg #[.int .i64 xk, .int .i64 yk]) (wk : (Lit.int .i64 xk).wf = true) (wy : (Lit.int .i64 yk).wf = true) (hf : f xk yk = some d)
  (hK : wpList Tryz.prog ops Q rest (a.put o.dst (.tuple #[.int .i64 d, .bool true])) w) : wpList Tryz.prog ops Q (o :: rest) a w :=
 mapE_look hg m x hop b n f hm H xk yk hx wk wy (by rw [hf]; exact hK)
end
end Go.Proofs.YtfkejflmhidnaaaGreat.PAll
namespace Go.Proofs.YtfkejflmhidnaaaGreat.PAll
open RowKit YtfkejflmhidnaaaGreatW.PrintWords YtfkejflmhidnaaaGreatW.PrintLast YtfkejflmhidnaaaGreatW.PrintMore
open Hp hiding Good
structure VH (n : Nat) (rank : List Int) (ways : List S71) : Prop where
 small : n ≤ 900
 few : ways.length ≤ 100000
 rl : rank.length = n
 rin : ∀ v : Nat, v < n → 0 ≤ rd rank v ∧ rd rank v < n
 rinj : ∀ u v : Nat, u < n → v < n → rd rank u = rd rank v → u = v
 ends : ∀ x ∈ ways, 0 ≤ x.f0 ∧ x.f0 < n ∧ 0 ≤ x.f1 ∧ x.f1 < n ∧ x.f0 ≠ x.f1 ∧ 0 ≤ x.f2.f0 ∧ x.f2.f0 ≤ 1125899906842624
 uniq : ∀ i j : Nat, i < ways.length → j < ways.length → (rd_T71 ways i).f0 = (rd_T71 ways j).f0 → (rd_T71 ways i).f1 = (rd_T71 ways j).f1 → i = j
 right : ∀ x ∈ ways, (x.f2.f1 = -1 ∧ 0 ≤ x.f2.f2 ∧ x.f2.f2 < 67108864) ∨
  (x.f2.f1 ≠ -1 ∧ x.f2.f2 = -1 ∧ 0 ≤ x.f2.f1 ∧ x.f2.f1 < n ∧ rd rank x.f2.f1 < rd rank x.f0 ∧ rd rank x.f2.f1 < rd rank x.f1 ∧
   ∃ i j : Nat, i < ways.length ∧ j < ways.length ∧ (rd_T71 ways i).f0 = x.f0 ∧ (rd_T71 ways i).f1 = x.f2.f1 ∧ (rd_T71 ways j).f0 = x.f2.f1 ∧ (rd_T71 ways j).f1 = x.f1 ∧ (rd_T71 ways i).f2.f0 + (rd_T71 ways j).f2.f0 = x.f2.f0)
def findP (ways : List S71) : Nat → Int → Int → Option Int
 | 0 => fun _ _ => none
 | k + 1 => upd2 (findP ways k) (rd_T71 ways k).f0 (rd_T71 ways k).f1 k
theorem findP_none (ways : List S71) (x y : Int) : ∀ k : Nat, (∀ i : Nat, i < k → ¬ ((rd_T71 ways i).f0 = x ∧ (rd_T71 ways i).f1 = y)) → findP ways k x y = none
 | 0, _ => rfl
 | k + 1, h => by
  simp only [findP, upd2]
  rw [if_neg (fun f => h k (by omega) ⟨f.1.symm, f.2.symm⟩)]
  exact findP_none ways x y k (fun i hi => h i (by omega))
theorem findP_some (ways : List S71) (x y : Int) (i : Nat) (hx : (rd_T71 ways i).f0 = x) (hy : (rd_T71 ways i).f1 = y) : ∀ k : Nat, i < k → (∀ j : Nat, j < k → (rd_T71 ways j).f0 = x → (rd_T71 ways j).f1 = y → j = i) → findP ways k x y = some (i : Int)
 | 0, h, _ => by omega
 | k + 1, h, hu => by
  simp only [findP, upd2]
  by_cases e : x = (rd_T71 ways k).f0 ∧ y = (rd_T71 ways k).f1
  ·have := hu k (by omega) e.1.symm e.2.symm
   rw [if_pos e, this]
  ·rw [if_neg e]
   have hik : i ≠ k := fun f => by subst f; exact e ⟨hx.symm, hy.symm⟩
   exact findP_some ways x y i hx hy k (by omega) (fun j hj => hu j (by omega))
theorem rd66_mem (l : List S71) (i : Nat) (h : i < l.length) : rd_T71 l (i : Int) ∈ l := by
 have e : rd_T71 l (i : Int) = l[i] := by simp [rd_T71, List.getD, h]
 rw [e]; exact List.getElem_mem _
attribute [local go_sem] max2_int min2_int max_two min_two max_three min_three max_four min_four
set_option maxRecDepth 100000 in
set_option maxHeartbeats 2000000 in
theorem found_walk (w : World) (n : Nat) (rank : List Int) (ways : List S71) (V : VH n rank ways) (rA wA : Option Addr) (rc wc : Nat) (hr : Kd.C (Kd.int .i64) w rA n rank) (hw : Kd.C k71 w wA ways.length ways) :
  Calls Tryz.prog 72 #[.agg #[.slice rA n rc, .slice wA ways.length wc]] w fun r w' => ∃ mb m, r = .returned (.tuple #[.map (some mb), .bool true]) ∧ MapE w' mb m (findP ways ways.length) ∧ w.heap.size ≤ mb ∧ Below w.heap.size w w' := by
 have hn := V.small
 have hf := V.few
 have HV := Lib.hid V
 obtain ⟨len, hlen⟩ : ∃ len, ways.length = len := ⟨_, rfl⟩
 have HW := Lib.hid hw
 have HLEN := Lib.hid hlen
 rw [hlen] at hf ⊢
 clear V hr hw hlen
 have hmm := @run_makeMap Tryz.prog
 go_enter Tryz.func72, Tryz.ntmps72
 go_wp2_with fail
 go_loopw [17] (fun v17 wr => ∃ i : Nat, v17 = .int .i64 i ∧ i ≤ len ∧ Hid (MapE wr (w.heap.size + 1) i (findP ways i)) ∧ Hid (Below w.heap.size w wr)) (fun v17 _ => len - (intOf v17).toNat)
 case atStart =>
  refine ⟨0, rfl, by omega, Lib.hid ?_, Lib.hid ((((Below.refl w.heap.size w).alloc (Nat.le_refl _) _).alloc (by simp) _))⟩
  have := MapE.made (w.alloc (.cells #[.slice rA n rc, .slice wA len wc] 31))
  rw [World.size_alloc] at this
  exact this
 case round =>
  obtain ⟨i, rfl, hi, HM, HB⟩ := hrel
  by_cases hlt : i < len
  ·have hmem := rd66_mem ways i (by have := HLEN.out; omega)
   obtain ⟨ad, rfl, r0, r1, r2, r3, r4⟩ := at_T71 (Kd.C_below HW.out HB.out) (i : Int) (by omega) (by have := HLEN.out; omega)
   have he := HV.out.ends _ hmem
   have HF : Hid (findP ways i (rd_T71 ways i).f0 (rd_T71 ways i).f1 = none) := Lib.hid (findP_none _ _ _ i (fun j hj f => by
    have := HV.out.uniq j i (by have := HLEN.out; omega) (by have := HLEN.out; omega) f.1 f.2
    omega))
   have HN : Hid (findP ways (i + 1) = upd2 (findP ways i) (rd_T71 ways i).f0 (rd_T71 ways i).f1 i) := Lib.hid rfl
   simp only [Int.toNat_natCast] at r0 r1 r2 r3 r4
   generalize rd_T71 ways (i : Int) = e at *
   obtain ⟨a, b, x, y, z⟩ := e
   simp only at r0 r1 r2 r3 r4 he HF HN
   obtain ⟨h0, h1, h2, h3, h4, h5, h6⟩ := he
   have hi0 : (0 : Int) ≤ (i : Int) := Int.natCast_nonneg _
   have hi1 : (i : Int) < (len : Int) := by omega
   have q1 : (a == b) = false := by simpa using h4
   have q2 : decide (mn (mn a b) x < 0) = false := by simp only [decide_eq_false_iff_not]; unfold mn; repeat (first | omega | split)
   have q3 : decide (mx a b ≥ (n : Int)) = false := by simp only [decide_eq_false_iff_not]; unfold mx; repeat (first | omega | split)
   have q4 : decide ((n : Int) ≤ mx a b) = false := by simp only [decide_eq_false_iff_not]; unfold mx; repeat (first | omega | split)
   have q5 : decide (x > 1152921504606846976) = false := by simp; omega
   have q6 : decide (1152921504606846976 < x) = false := by simp; omega
   clear hmem h4
   go_wp2_with (first | (at_lookup; refine mapE_none rfl (.tmp 23) (.tmp 28) rfl (w.heap.size + 1) i (findP ways i) rfl (HM.out.only ((Only.refl wr (fun _ => False)).alloc _) (fun f => f)) a b rfl (wf64 (by omega) (by omega)) (wf64 (by omega) (by omega)) HF.out ?_) | (at_mapUpdate; refine mapE_put rfl (.tmp 59) (.tmp 64) (.tmp 65) rfl (w.heap.size + 1) i (findP ways i) rfl (HM.out.only ((Only.refl wr (fun _ => False)).alloc _) (fun f => f)) (by simp only [maxLen]; omega) a b i rfl rfl (wf64 (by omega) (by omega)) (wf64 (by omega) (by omega)) (wf64 (by omega) (by omega)) ?_; intro w2 hM hg; have HM2 := Lib.hid hM; have HG2 := Lib.hid hg; clear hM hg))
   all_goals go_roundw
   all_goals first
    | (case measure => simp [intOf]; omega)
    | skip
   all_goals refine ⟨i + 1, by go_num, by omega, Lib.hid (by rw [HN.out]; exact HM2.out), Lib.hid ?_⟩
   all_goals exact (HB.out.alloc HB.out.size _).trans (((Only.of_grown HG2.out).below (by have := HB.out.size; simp; omega) (fun k hk => by cases hk; omega)))
  ·have hil : len ≤ i := by omega
   have HIL : Hid (i = ways.length) := Lib.hid (by have := HLEN.out; omega)
   go_wp2_with fail
   go_ret2
   rw [HIL.out] at HM
   exact ⟨_, _, rfl, by rw [← HLEN.out]; exact HM.out, by omega, HB.out⟩
end Go.Proofs.YtfkejflmhidnaaaGreat.PAll
namespace Go.Proofs.YtfkejflmhidnaaaGreat.PAll
open RowKit YtfkejflmhidnaaaGreatW.PrintWords YtfkejflmhidnaaaGreatW.PrintLast YtfkejflmhidnaaaGreatW.PrintMore
open Hp hiding Good
set_option maxHeartbeats 1000000 in
theorem halves_walk (w : World) (v1 v2 : Value) (mb m : Nat) (f : Int → Int → Option Int) (M : MapE w mb m f) (a b x mid z i j : Int) (ha : 0 ≤ a) (ha' : a ≤ 1000000) (hb : 0 ≤ b) (hb' : b ≤ 1000000) (hm : 0 ≤ mid) (hm' : mid ≤ 1000000)
  (h1 : f a mid = some i) (h2 : f mid b = some j) :
  Calls Tryz.prog 109 #[.agg #[v1, v2], .map (some mb), .agg #[.int .i64 a, .int .i64 b, .int .i64 x, .int .i64 mid, .int .i64 z]] w fun r w' => r = .returned (.tuple #[.int .i64 i, .int .i64 j, .bool true]) ∧ Below w.heap.size w w' := by
 have HM := Lib.hid M
 have H1 := Lib.hid h1
 have H2 := Lib.hid h2
 clear M h1 h2
 go_enter Tryz.func109, Tryz.ntmps109
 go_wp2_with (first
  | (at_lookup; refine mapE_some rfl (.tmp 14) (.tmp 20) rfl mb m f rfl (HM.out.only (((Only.refl w (fun _ => False)).alloc _).alloc _) (fun f => f)) a mid i rfl (wf64 (by omega) (by omega)) (wf64 (by omega) (by omega)) H1.out ?_)
  | (at_lookup; refine mapE_some rfl (.tmp 25) (.tmp 31) rfl mb m f rfl (HM.out.only (((Only.refl w (fun _ => False)).alloc _).alloc _) (fun f => f)) mid b j rfl (wf64 (by omega) (by omega)) (wf64 (by omega) (by omega)) H2.out ?_))
 go_ret3
 exact ⟨rfl, ((Below.refl _ _).alloc (Nat.le_refl _) _).alloc (by simp) _⟩
set_option maxRecDepth 100000 in
set_option maxHeartbeats 2000000 in
theorem right_arc (w : World) (v1 v2 v3 : Value) (a b x z : Int) (hz : 0 ≤ z) (hz' : z < 67108864) :
  Calls Tryz.prog 73 #[.agg #[v1, v2], v3, .agg #[.int .i64 a, .int .i64 b, .int .i64 x, .int .i64 (-1), .int .i64 z]] w fun r w' => r = .returned (.bool true) ∧ Below w.heap.size w w' := by
 have d1 : decide (z ≥ 0) = true := by simpa using hz
 have d2 : decide (z < 67108864) = true := by simpa using hz'
 go_enter Tryz.func73, Tryz.ntmps73
 go_wp2
 go_ret
 exact ⟨rfl, ((Below.refl _ _).alloc (Nat.le_refl _) _).alloc (by simp) _⟩
set_option maxRecDepth 100000 in
set_option maxHeartbeats 4000000 in
theorem right_mid (w : World) (n : Nat) (rank : List Int) (ways : List S71) (rA wA : Option Addr) (rc wc mb m : Nat) (f : Int → Int → Option Int) (M : MapE w mb m f) (hr : Kd.C (Kd.int .i64) w rA n rank) (hw : Kd.C k71 w wA ways.length ways)
  (hn : n ≤ 900) (hf : ways.length ≤ 100000) (a b mid : Nat) (x : Int) (i j : Nat) (ha : a < n) (hb : b < n) (hm : mid < n) (hra : rd rank mid < rd rank a) (hrb : rd rank mid < rd rank b) (hi : i < ways.length) (hj : j < ways.length)
  (h1 : f a mid = some (i : Int)) (h2 : f mid b = some (j : Int)) (hx : (rd_T71 ways i).f2.f0 + (rd_T71 ways j).f2.f0 = x) (hx0 : -4611686018427387904 ≤ x) (hx1 : x ≤ 4611686018427387904) :
  Calls Tryz.prog 73 #[.agg #[.slice rA n rc, .slice wA ways.length wc], .map (some mb), .agg #[.int .i64 a, .int .i64 b, .int .i64 x, .int .i64 mid, .int .i64 (-1)]] w fun r w' => r = .returned (.bool true) ∧ Below w.heap.size w w' := by
 obtain ⟨ad, rfl, ra⟩ := Kd.at_int hr (a : Int) (by omega) (by omega)
 obtain ⟨_, e1, rb⟩ := Kd.at_int hr (b : Int) (by omega) (by omega)
 obtain ⟨_, e2, rm⟩ := Kd.at_int hr (mid : Int) (by omega) (by omega)
 cases e1
 cases e2
 obtain ⟨ad2, rfl, _, _, s1, _⟩ := at_T71 hw (i : Int) (by omega) (by omega)
 obtain ⟨_, e3, _, _, s2, _⟩ := at_T71 hw (j : Int) (by omega) (by omega)
 cases e3
 simp only [Int.toNat_natCast] at ra rb rm s1 s2
 generalize (rd_T71 ways (i : Int)).f2.f0 = xi at *
 generalize (rd_T71 ways (j : Int)).f2.f0 = xj at *
 generalize rd rank (a : Int) = va at *
 generalize rd rank (b : Int) = vb at *
 generalize rd rank (mid : Int) = vm at *
 obtain ⟨len, hlen⟩ : ∃ len, ways.length = len := ⟨_, rfl⟩
 rw [hlen] at hf hi hj ⊢
 have HH : Hid (∀ w1 v1 v2, Below w.heap.size w w1 → Calls Tryz.prog 109 #[.agg #[v1, v2], .map (some mb), .agg #[.int .i64 a, .int .i64 b, .int .i64 x, .int .i64 mid, .int .i64 (-1)]] w1 fun r w' => r = .returned (.tuple #[.int .i64 i, .int .i64 j, .bool true]) ∧ Below w1.heap.size w1 w') :=
  Lib.hid (fun w1 v1 v2 g => halves_walk w1 v1 v2 mb m f (M.only (Only.of_below g (fun _ => False)) (fun f => f)) a b x mid (-1) i j (by omega) (by omega) (by omega) (by omega) (by omega) (by omega) h1 h2)
 clear hr hw M h1 h2 hlen
 have lm := World.block_lt_of_cell? w _ rm
 have la := World.block_lt_of_cell? w _ ra
 have lb := World.block_lt_of_cell? w _ rb
 have ls1 := World.block_lt_of_cell? w _ s1
 have ls2 := World.block_lt_of_cell? w _ s2
 have ia0 : (0 : Int) ≤ (a : Int) := by omega
 have ia1 : (a : Int) < (n : Int) := by omega
 have ib0 : (0 : Int) ≤ (b : Int) := by omega
 have ib1 : (b : Int) < (n : Int) := by omega
 have im0 : (0 : Int) ≤ (mid : Int) := by omega
 have im1 : (mid : Int) < (n : Int) := by omega
 have ii0 : (0 : Int) ≤ (i : Int) := by omega
 have ii1 : (i : Int) < (len : Int) := by omega
 have ij0 : (0 : Int) ≤ (j : Int) := by omega
 have ij1 : (j : Int) < (len : Int) := by omega
 have m1 : ((mid : Int) == -1) = false := by rw [beq_eq_false_iff_ne]; omega
 have m2 : decide ((mid : Int) < 0) = false := by simp
 have m3 : decide ((mid : Int) ≥ (n : Int)) = false := by simp; omega
 have m4 : decide ((n : Int) ≤ (mid : Int)) = false := by simp; omega
 have m5 : decide (n ≤ mid) = false := by simp; omega
 have q1 : decide (vm ≥ mn va vb) = false := by simp only [decide_eq_false_iff_not]; unfold mn; repeat (first | omega | split)
 have q2 : decide (mn va vb ≤ vm) = false := by simp only [decide_eq_false_iff_not]; unfold mn; repeat (first | omega | split)
 have q3 : decide (vb ≤ vm) = false := by simp; omega
 have q4 : decide (va ≤ vm) = false := by simp; omega
 go_enter Tryz.func73, Tryz.ntmps73
 go_wp2_with fail
 go_cut [65] (fun v65 wx => v65 = .bool false ∧ Hid (Below w.heap.size w wx) ∧ Hid (wx.heap[w.heap.size]? = some (.cells #[.slice (some ad) n rc, .slice (some ad2) len wc] 31 (0, 0))) ∧ Hid (wx.heap[w.heap.size + 1]? = some (.cells #[.int .i64 a, .int .i64 b, .int .i64 x, .int .i64 mid, .int .i64 (-1)] 71 (0, 0))))
 case first =>
  have k0 := blk_new w (.cells #[.slice (some ad) n rc, .slice (some ad2) len wc] 31)
  have k1 := blk_new (w.alloc (.cells #[.slice (some ad) n rc, .slice (some ad2) len wc] 31)) (.cells #[.int .i64 a, .int .i64 b, .int .i64 x, .int .i64 mid, .int .i64 (-1)] 71)
  rw [World.size_alloc] at k1
  have K0 := Lib.hid k0
  have K1 := Lib.hid k1
  clear k0 k1
  go_quiet (fail)
  all_goals (try go_wp2_with fail)
  all_goals go_meet
  all_goals exact ⟨rfl, Lib.hid (pw_below_drewN (((Below.refl w.heap.size w).alloc (Nat.le_refl _) _).alloc (by simp) _) _), Lib.hid (blk_drewN (blk_alloc K0.out _) _), Lib.hid (blk_drewN K1.out _)⟩
 case rest =>
  obtain ⟨rfl, HB, HK0, HK1⟩ := hcut
  have p0 := (blk_cell HK0.out 0).trans rfl
  have p1 := (blk_cell HK0.out 1).trans rfl
  have p2 := (blk_cell HK1.out 0).trans rfl
  have p3 := (blk_cell HK1.out 1).trans rfl
  have p4 := (blk_cell HK1.out 2).trans rfl
  have p5 := (blk_cell HK1.out 3).trans rfl
  have p6 := (blk_cell HK1.out 4).trans rfl
  have p7 := blk_lt HK0.out
  have p8 := blk_lt HK1.out
  clear q1 q2 q3 q4 m1 m2 m3 m4 m5 ra rb rm
  go_wp2_with (go_at_call 109; refine (HH.out _ _ _ HB.out).mono ?_; rintro e w2 ⟨rfl, hB2⟩; have HB2 := Lib.hid (HB.out.trans (hB2.mono HB.out.size)); have HK2 := Lib.hid ((hB2.block _ p7).trans HK0.out); have HK3 := Lib.hid ((hB2.block _ p8).trans HK1.out); clear hB2)
  clear p0 p1 p2 p3 p4 p5 p6 p7 p8
  have p1 := (blk_cell HK2.out 1).trans rfl
  have p4 := (blk_cell HK3.out 2).trans rfl
  have p7 := blk_lt HK2.out
  have p8 := blk_lt HK3.out
  have s1' := (HB2.out.cell (p := ⟨(ad2.add (i * 5)).block, (ad2.add (i * 5)).off + 2, none⟩) ls1).trans s1
  have s2' := (HB2.out.cell (p := ⟨(ad2.add (j * 5)).block, (ad2.add (j * 5)).off + 2, none⟩) ls2).trans s2
  have hxx : IntKind.i64.wrap (xi + xj) = x := i64w hx (by omega) (by omega)
  have hxe : (x == x) = true := by simp
  clear s1 s2 hx
  go_quiet (fail)
  go_wp2_with fail
  go_ret
  exact ⟨rfl, pw_below_drewN HB2.out _⟩
theorem rd_pl (l : List Int) (i : Int) : rd l i = pl l i := rfl
def OwnI (w : World) (B g n : Nat) (x : List Int) : Prop := w.ownsRow B 3 1 (.slice (some ⟨g, 0, none⟩) n n) n (ints x)
theorem OwnI.len {w : World} {B g n : Nat} {x : List Int} (h : OwnI w B g n x) : x.length = n := by
 have := h.1
 simpa [ints] using this
theorem OwnI.facts {w : World} {B g n : Nat} {x : List Int} (h : OwnI w B g n x) (i : Nat) (hi : i < n) : w.cell? ⟨g, i, none⟩ = some (.int .i64 (rd x i)) ∧ w.frozen? ⟨g, i, none⟩ = false ∧ g < w.heap.size :=
 ⟨(World.ownsRow.cellAt h i (by omega)).trans (ints_get x i (by rw [h.len]; exact hi)), World.ownsRow.frozenAt h i, (World.ownsRow.lt h g rfl).2⟩
theorem OwnI.set {w : World} {B g n : Nat} {x : List Int} (h : OwnI w B g n x) (i : Nat) (v : Int) : OwnI (w.setCell ⟨g, i, none⟩ (.int .i64 v)) B g n (x.set i v) := by
 have := (World.ownsRow.stored h i (.int .i64 v)).1
 rw [← ints_set] at this
 exact this
set_option maxRecDepth 100000 in
set_option maxHeartbeats 2000000 in
theorem placed_walk (w : World) (n : Nat) (rank : List Int) (ways : List S71) (V : VH n rank ways) (rA : Option Addr) (rc : Nat) (hr : Kd.C (Kd.int .i64) w rA n rank) :
  Calls Tryz.prog 71 #[.slice rA n rc] w fun r w' => ∃ x g, r = .returned (.tuple #[.slice (some ⟨g, 0, none⟩) n n, .bool true]) ∧ OwnI w' w.heap.size g n x ∧ Below w.heap.size w w' ∧ ∀ u : Nat, u < n → rd x (rd rank u) = u := by
 have hn := V.small
 have HV := Lib.hid V
 have HR := Lib.hid hr
 obtain ⟨i0, hi0, hz0, hz1, hz2⟩ := info_parts info3'
 clear V hr
 go_enter Tryz.func71, Tryz.ntmps71
 go_wp2_with (first | (at_make; refine wpList_make_full _ (by rfl) _ _ _ (by rfl) w.heap.size 3 i0 (.int .i64 0) 1 Tryz.underlying28 hi0 hz0 hz1 .i64 .i64 _ _ n (by rfl) (by rfl) rfl rfl (by rw [hz2]; omega) (by simp only [maxLen]; omega) (Nat.le_refl _) ?_; intro w1 hown hgrow; have HO1 := Lib.hid hown; have HG1 := Lib.hid hgrow; clear hown hgrow))
 have HW1 : Hid (OwnI w1 w.heap.size w.heap.size n (List.replicate n 0)) := Lib.hid (by
  unfold OwnI
  rw [ints_zero]
  simpa [Value.cells] using HO1.out)
 have HB1 : Hid (Below w.heap.size w w1) := Lib.hid ((Below.refl w.heap.size w).grown HG1.out (Nat.le_refl _) (fun k hk => by cases hk))
 clear HO1 HG1
 go_loopw [13] (fun v13 wr => ∃ (i : Nat) (x : List Int), v13 = .int .i64 i ∧ i ≤ n ∧ Hid (OwnI wr w.heap.size w.heap.size n x) ∧ Hid (Below w.heap.size w wr) ∧ Hid (∀ j : Nat, j < i → rd x j = -1)) (fun v13 _ => n - (intOf v13).toNat)
 case atStart => exact ⟨0, _, rfl, by omega, HW1, HB1, Lib.hid (fun j hj => by omega)⟩
 case round =>
  obtain ⟨i, x, rfl, hi, HO, HB, HX⟩ := hrel
  clear HW1 HB1
  by_cases hlt : i < n
  ·obtain ⟨c0, f0, l0⟩ := HO.out.facts i hlt
   have hi0' : (0 : Int) ≤ (i : Int) := Int.natCast_nonneg _
   have hi1 : (i : Int) < (n : Int) := by omega
   generalize rd x (i : Int) = y at c0
   go_wp2_with fail
   go_roundw
   case measure => simp [intOf]; omega
   case rel =>
    refine ⟨i + 1, x.set i (-1), by go_num, by omega, Lib.hid (HO.out.set i (-1)), Lib.hid (HB.out.setCell (p := ⟨w.heap.size, i, none⟩) (Nat.le_refl _) _), Lib.hid (fun j hj => ?_)⟩
    have hlen := HO.out.len
    by_cases e : j = i
    ·subst e; exact pl_set_same x j (-1) (by simp; omega)
    ·have := pl_set_other x i j (-1) (by omega) (by omega) (by omega)
     rw [rd_pl]
     simp only [Int.toNat_natCast] at this
     rw [this]
     exact HX.out j (by omega)
  ·have HIN : Hid (i = n) := Lib.hid (by omega)
   have hin : n ≤ i := by omega
   go_wp2_with fail
   go_loopw [22] (fun v22 wr => ∃ (v : Nat) (x : List Int), v22 = .int .i64 v ∧ v ≤ n ∧ Hid (OwnI wr w.heap.size w.heap.size n x) ∧ Hid (Below w.heap.size w wr) ∧ Hid (∀ u : Nat, u < v → rd x (rd rank u) = u) ∧ Hid (∀ j : Nat, j < n → (∀ u : Nat, u < v → rd rank u ≠ j) → rd x j = -1)) (fun v22 _ => n - (intOf v22).toNat)
   case atStart => exact ⟨0, x, rfl, by omega, HO, HB, Lib.hid (fun u hu => by omega), Lib.hid (fun j hj _ => HX.out j (by have := HIN.out; omega))⟩
   case round =>
    clear HO HB HX HIN hin hi hlt
    obtain ⟨v, x, rfl, hv, HO, HB, HX, HY⟩ := hrel
    by_cases hlt : v < n
    ·have hrv := HV.out.rin v hlt
     obtain ⟨a, ha⟩ := Int.eq_ofNat_of_zero_le hrv.1
     have hfree : rd x a = -1 := HY.out a (by omega) (fun u hu e => by
      have : u = v := HV.out.rinj u v (by omega) hlt (by omega)
      omega)
     obtain ⟨c0, f0, l0⟩ := HO.out.facts a (by omega)
     rw [hfree] at c0
     obtain ⟨ad, rfl, r0⟩ := Kd.at_int (Kd.C_below HR.out HB.out) (v : Int) (by omega) (by omega)
     rw [ha] at r0
     have HA := Lib.hid ha
     have r0' : wr.cell? (ad.add v) = some (.int .i64 a) := r0
     have hv0 : (0 : Int) ≤ (v : Int) := Int.natCast_nonneg _
     have hv1 : (v : Int) < (n : Int) := by omega
     have ha0 : (0 : Int) ≤ (a : Int) := Int.natCast_nonneg _
     have ha1 : (a : Int) < (n : Int) := by omega
     have q1 : decide ((a : Int) < 0) = false := by simp
     have q2 : decide ((a : Int) ≥ (n : Int)) = false := by simp; omega
     have q3 : decide (n ≤ a) = false := by simp; omega
     clear ha hfree r0 hrv
     go_wp2_with fail
     go_roundw
     case measure => simp [intOf]; omega
     case rel =>
      have hlen := HO.out.len
      refine ⟨v + 1, x.set a v, by go_num, by omega, Lib.hid (HO.out.set a v), Lib.hid (HB.out.setCell (p := ⟨w.heap.size, a, none⟩) (Nat.le_refl _) _), Lib.hid (fun u hu => ?_), Lib.hid (fun j hj hne => ?_)⟩
      ·by_cases e : u = v
       ·subst e
        rw [HA.out]
        exact pl_set_same x a u (by simp; omega)
       ·have hu' := HV.out.rin u (by omega)
        have hne : (a : Int) ≠ rd rank u := fun f => e (HV.out.rinj u v (by omega) hlt (by rw [HA.out]; omega))
        have := pl_set_other x a (rd rank u) v (by omega) hu'.1 hne
        simp only [Int.toNat_natCast] at this
        rw [rd_pl, this]
        exact HX.out u (by omega)
      ·have hne2 : (a : Int) ≠ (j : Int) := fun f => hne v (by omega) (by rw [HA.out]; exact f)
       have := pl_set_other x a j v (by omega) (by omega) hne2
       simp only [Int.toNat_natCast] at this
       rw [rd_pl, this]
       exact HY.out j hj (fun u hu => hne u (by omega))
    ·have HIN : Hid (v = n) := Lib.hid (by omega)
     have hin : n ≤ v := by omega
     go_wp2_with fail
     go_ret2
     exact ⟨x, _, rfl, HO.out, HB.out, fun u hu => HX.out u (by have := HIN.out; omega)⟩
theorem right_walk (w : World) (n : Nat) (rank : List Int) (ways : List S71) (V : VH n rank ways) (rA wA : Option Addr) (rc wc mb m : Nat) (M : MapE w mb m (findP ways ways.length)) (hr : Kd.C (Kd.int .i64) w rA n rank) (hw : Kd.C k71 w wA ways.length ways)
  (i : Nat) (hi : i < ways.length) :
  Calls Tryz.prog 73 #[.agg #[.slice rA n rc, .slice wA ways.length wc], .map (some mb), .agg #[.int .i64 (rd_T71 ways i).f0, .int .i64 (rd_T71 ways i).f1, .int .i64 (rd_T71 ways i).f2.f0, .int .i64 (rd_T71 ways i).f2.f1, .int .i64 (rd_T71 ways i).f2.f2]] w fun r w' => r = .returned (.bool true) ∧ Below w.heap.size w w' := by
 have hmem := rd66_mem ways i hi
 have he := V.ends _ hmem
 have hri := V.right _ hmem
 generalize rd_T71 ways (i : Int) = e at *
 obtain ⟨a, b, x, y, z⟩ := e
 simp only at he hri ⊢
 obtain ⟨h0, h1, h2, h3, h4, h5, h6⟩ := he
 rcases hri with ⟨rfl, h7, h8⟩ | ⟨_, rfl, h8, h9, h10, h11, p, q, hp, hq, p0, p1, q0, q1, hs⟩
 ·exact right_arc w _ _ _ a b x z h7 h8
 ·obtain ⟨a, rfl⟩ := Int.eq_ofNat_of_zero_le h0
  obtain ⟨b, rfl⟩ := Int.eq_ofNat_of_zero_le h2
  obtain ⟨y, rfl⟩ := Int.eq_ofNat_of_zero_le h8
  exact right_mid w n rank ways rA wA rc wc mb m _ M hr hw V.small V.few a b y x p q (by omega) (by omega) (by omega) h10 h11 hp hq
   (findP_some ways _ _ p p0 p1 _ hp (fun j hj e0 e1 => V.uniq j p hj hp (by rw [e0, p0]) (by rw [e1, p1])))
   (findP_some ways _ _ q q0 q1 _ hq (fun j hj e0 e1 => V.uniq j q hj hq (by rw [e0, q0]) (by rw [e1, q1]))) hs (by omega) (by omega)
structure Checked (w w' : World) (xb g mb m n : Nat) (rank x : List Int) (ways : List S71) (rA wA : Option Addr) (rc wc : Nat) : Prop where
 blk : w'.heap[xb]? = some (.cells #[.slice rA n rc, .slice wA ways.length wc, .slice (some ⟨g, 0, none⟩) n n, .map (some mb), .slice none 0 0, .slice none 0 0] 67 (0, 0))
 own : OwnI w' w.heap.size g n x
 map : MapE w' mb m (findP ways ways.length)
 new : w.heap.size ≤ xb
 inv : ∀ u : Nat, u < n → rd x (rd rank u) = u
set_option maxRecDepth 100000 in
set_option maxHeartbeats 4000000 in
theorem check_walk (w : World) (n : Nat) (rank : List Int) (ways : List S71) (V : VH n rank ways) (rA wA : Option Addr) (rc wc : Nat) (hr : Kd.C (Kd.int .i64) w rA n rank) (hw : Kd.C k71 w wA ways.length ways) :
  Calls Tryz.prog 32 #[.agg #[.slice rA n rc, .slice wA ways.length wc]] w fun r w' => ∃ xb g mb m x, r = .returned (.tuple #[.pointer (some ⟨xb, 0, none⟩), .int .i64 0]) ∧ Checked w w' xb g mb m n rank x ways rA wA rc wc ∧ Below w.heap.size w w' := by
 have hn := V.small
 have hf := V.few
 have HV := Lib.hid V
 obtain ⟨w0, hw0⟩ : ∃ w0, w.alloc (.cells #[.slice rA n rc, .slice wA ways.length wc] 31) = w0 := ⟨_, rfl⟩
 have B0 : Below w.heap.size w w0 := by rw [← hw0]; exact (Below.refl _ _).alloc (Nat.le_refl _) _
 have hs0 : w0.heap.size = w.heap.size + 1 := by rw [← hw0]; simp
 have bt0 : w0.heap[w.heap.size]? = some (.cells #[.slice rA n rc, .slice wA ways.length wc] 31 (0, 0)) := by rw [← hw0]; exact blk_new w _
 have HPL := Lib.hid (placed_walk w0 n rank ways V rA rc (Kd.C_below hr B0))
 have HR := Lib.hid hr
 have HW := Lib.hid hw
 have HB0 := Lib.hid B0
 have HS0 := Lib.hid hs0
 have HBT := Lib.hid bt0
 have HW0 := Lib.hid hw0
 obtain ⟨len, hlen⟩ : ∃ len, ways.length = len := ⟨_, rfl⟩
 have HLEN := Lib.hid hlen
 rw [hlen] at hf HBT HW0 ⊢
 have d1 : decide ((n : Int) > 16777216) = false := by simp; omega
 have d2 : decide ((len : Int) > 67108864) = false := by simp; omega
 have d3 : decide (16777216 < n) = false := by simp; omega
 have d4 : decide (67108864 < len) = false := by simp; omega
 have d5 : decide ((16777216 : Int) < (n : Int)) = false := by simp; omega
 have d6 : decide ((67108864 : Int) < (len : Int)) = false := by simp; omega
 clear V hr hw B0 hs0 bt0 hw0 hlen
 go_enter Tryz.func32, Tryz.ntmps32
 go_wp2_with fail
 rw [HW0.out]
 refine HPL.out.mono ?_
 rintro e w1 ⟨x, g, rfl, hO1, hB1, hX⟩
 have hlt0 : w.heap.size < w0.heap.size := by have := HS0.out; omega
 have HBT1 := Lib.hid ((hB1.block _ hlt0).trans HBT.out)
 have HB1 := Lib.hid (HB0.out.trans (hB1.mono HB0.out.size))
 have HO1 := Lib.hid hO1
 have HX := Lib.hid hX
 have hfd := found_walk w1 n rank ways HV.out rA wA rc wc (Kd.C_below HR.out HB1.out) (Kd.C_below HW.out HB1.out)
 rw [HLEN.out] at hfd
 have HFD := Lib.hid hfd
 clear hO1 hB1 hX HPL HBT hfd
 have p0 := (blk_cell HBT1.out 0).trans rfl
 have p1 := (blk_cell HBT1.out 1).trans rfl
 go_wp2_with fail
 refine HFD.out.mono ?_
 rintro e w2 ⟨mb, m, rfl, hM2, hmb, hB2⟩
 have hlt1 : w.heap.size < w1.heap.size := blk_lt HBT1.out
 have HBT2 := Lib.hid ((hB2.block _ hlt1).trans HBT1.out)
 have HO2 : Hid (OwnI w2 w.heap.size g n x) := Lib.hid (by
  have h1 : OwnI w1 w0.heap.size g n x := HO1.out
  have h2 : OwnI w2 w0.heap.size g n x := own_only h1 (Only.of_below hB2 (fun _ => False)) (fun _ _ f => f)
  have hb : w.heap.size ≤ w0.heap.size := HB0.out.size
  exact own_weaken h2 hb)
 have HB2 := Lib.hid (HB1.out.trans (hB2.mono HB1.out.size))
 have HM2 := Lib.hid hM2
 clear hM2 hmb hB2 HFD p0 p1 HO1 HBT1
 have p0 := (blk_cell HBT2.out 0).trans rfl
 have p1 := (blk_cell HBT2.out 1).trans rfl
 go_wp2_with fail
 go_loopw [40] (fun v40 wr => ∃ i : Nat, v40 = .int .i64 i ∧ i ≤ len ∧ Hid (Below w2.heap.size w2 wr)) (fun v40 _ => len - (intOf v40).toNat)
 case atStart => exact ⟨0, rfl, by omega, Lib.hid (Below.refl _ _)⟩
 case round =>
  obtain ⟨i, rfl, hi, HB⟩ := hrel
  clear p0 p1
  have hlt2 : w.heap.size < w2.heap.size := blk_lt HBT2.out
  have HBT3 := Lib.hid ((HB.out.block _ hlt2).trans HBT2.out)
  have p0 := (blk_cell HBT3.out 0).trans rfl
  have p1 := (blk_cell HBT3.out 1).trans rfl
  have p2 := blk_lt HBT3.out
  have HBW := Lib.hid (HB2.out.trans (HB.out.mono HB2.out.size))
  by_cases hlt : i < len
  ·have hrw := fun (w5 : World) (h5 : Below w2.heap.size w2 w5) => right_walk w5 n rank ways HV.out rA wA rc wc mb m (MapE.only (by have := HM2.out; rw [← HLEN.out] at this; exact this) (Only.of_below h5 (fun _ => False)) (fun f => f)) (Kd.C_below HR.out (HB2.out.trans (h5.mono HB2.out.size))) (Kd.C_below HW.out (HB2.out.trans (h5.mono HB2.out.size))) i (by have := HLEN.out; omega)
   have hc := at_T71 (Kd.C_below HW.out HBW.out) (i : Int) (by omega) (by have := HLEN.out; omega)
   rw [HLEN.out] at hrw
   have HRW := Lib.hid hrw
   obtain ⟨ad, rfl, r0, r1, r2, r3, r4⟩ := hc
   simp only [Int.toNat_natCast] at r0 r1 r2 r3 r4
   generalize rd_T71 ways (i : Int) = e at *
   obtain ⟨a, b, xx, y, z⟩ := e
   simp only at r0 r1 r2 r3 r4 HRW
   have hi0 : (0 : Int) ≤ (i : Int) := Int.natCast_nonneg _
   have hi1 : (i : Int) < (len : Int) := by omega
   clear hrw
   go_wp2_with (first | (go_at_call 73; refine (HRW.out _ (HB.out.alloc HB.out.size _)).mono ?_; rintro e w6 ⟨rfl, hB6⟩; have HB6 := Lib.hid hB6; clear hB6))
   go_roundw
   case measure => simp [intOf]; omega
   case rel => exact ⟨i + 1, by go_num, by omega, Lib.hid ((HB.out.alloc HB.out.size _).trans (HB6.out.mono (by have := HB.out.size; simp; omega)))⟩
  ·have hil : len ≤ i := by omega
   go_wp2_with fail
   go_ret2
   refine ⟨_, g, mb, m, x, rfl, ⟨?_, ?_, ?_, ?_, HX.out⟩, ?_⟩
   ·rw [HLEN.out]; exact blk_new wr _
   ·exact own_only (HO2.out) (Only.of_below (HB.out.alloc HB.out.size _) (fun _ => False)) (fun _ _ f => f)
   ·have := HM2.out
    rw [HLEN.out]
    exact MapE.only this (Only.of_below (HB.out.alloc HB.out.size _) (fun _ => False)) (fun f => f)
   ·exact HBW.out.size
   ·exact HBW.out.alloc HBW.out.size _
end Go.Proofs.YtfkejflmhidnaaaGreat.PAll
