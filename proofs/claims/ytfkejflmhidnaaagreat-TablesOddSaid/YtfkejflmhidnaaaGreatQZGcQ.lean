import Derived.Test.YtfkejflmhidnaaaGreatQNeP
import Derived.Test.YtfkejflmhidnaaaGreatQHpF
set_option linter.all false
namespace Go.Proofs.YtfkejflmhidnaaaGreat.PAll
open RowKit YtfkejflmhidnaaaGreatW.PrintWords YtfkejflmhidnaaaGreatW.PrintLast YtfkejflmhidnaaaGreatW.PrintMore
open Hp hiding Good
structure ArcOk (n : Nat) (a : S85) : Prop where
 f0 : 0 ≤ a.f0
 f1 : a.f0 < n
 t0 : 0 ≤ a.f1
 t1 : a.f1 < n
 w0 : 0 ≤ a.f2
 w1 : a.f2 ≤ 2147483648
structure MapOk (n : Nat) (A : List S85) : Prop where
 n0 : 1 ≤ n
 n1 : n ≤ 12
 few : A.length ≤ 40
 arcs : ∀ a ∈ A, ArcOk n a
theorem rd79_mem {A : List S85} {i : Nat} (h : i < A.length) : rd_T85 A (i : Int) ∈ A := by
 have e : rd_T85 A (i : Int) = A[i] := by simp [rd_T85, List.getD, h]
 rw [e]; exact List.getElem_mem _
theorem mem79 {A : List S85} {a : S85} (h : a ∈ A) : ∃ i : Nat, i < A.length ∧ rd_T85 A (i : Int) = a := by
 obtain ⟨i, hi, e⟩ := List.getElem_of_mem h
 exact ⟨i, hi, by simp [rd_T85, List.getD, hi, e]⟩
def BeatsAt (A : List S85) (i j : Nat) : Prop := (rd_T85 A (j : Int)).f0 = (rd_T85 A (i : Int)).f0 ∧ (rd_T85 A (j : Int)).f1 = (rd_T85 A (i : Int)).f1 ∧ ((rd_T85 A (j : Int)).f2 < (rd_T85 A (i : Int)).f2 ∨ (rd_T85 A (j : Int)).f2 = (rd_T85 A (i : Int)).f2 ∧ j < i)
def Counts (A : List S85) (i : Nat) : Prop := (rd_T85 A (i : Int)).f0 ≠ (rd_T85 A (i : Int)).f1 ∧ ∀ j, j < A.length → ¬ BeatsAt A i j
def wOf (v : Int) (e : S75) : S156 := ⟨v, e.f0, ⟨e.f1, -1, e.f2⟩⟩
def EA (A : List S85) (a b w : Int) : Prop := ∃ x ∈ A, x.f0 = a ∧ x.f1 = b ∧ x.f2 = w
theorem counts_best {A : List S85} (hl : A.length ≤ 40) (hw : ∀ q : Nat, q < A.length → 0 ≤ (rd_T85 A (q : Int)).f2) : ∀ (m q : Nat), q < A.length → (rd_T85 A (q : Int)).f0 ≠ (rd_T85 A (q : Int)).f1 → (rd_T85 A (q : Int)).f2.toNat * 41 + q ≤ m →
  ∃ p : Nat, p < A.length ∧ Counts A p ∧ (rd_T85 A (p : Int)).f0 = (rd_T85 A (q : Int)).f0 ∧ (rd_T85 A (p : Int)).f1 = (rd_T85 A (q : Int)).f1 ∧ (rd_T85 A (p : Int)).f2 ≤ (rd_T85 A (q : Int)).f2 := fun m => by
 induction m with
 | zero =>
  intro q hq hne hm
  obtain rfl : q = 0 := by omega
  refine ⟨0, hq, ⟨hne, fun j hj hb => ?_⟩, rfl, rfl, Int.le_refl _⟩
  have := hw j hj
  have := hw 0 hq
  rcases hb.2.2 with h | h <;> omega
 | succ m ih =>
  intro q hq hne hm
  by_cases hc : Counts A q
  ·exact ⟨q, hq, hc, rfl, rfl, Int.le_refl _⟩
  ·have : ∃ j, j < A.length ∧ BeatsAt A q j := by
    apply Classical.byContradiction
    intro hn
    exact hc ⟨hne, fun j hj hb => hn ⟨j, hj, hb⟩⟩
   obtain ⟨j, hj, e0, e1, e2⟩ := this
   have h1 := hw j hj
   have h2 := hw q hq
   obtain ⟨p, hp, c, f0, f1, f2⟩ := ih j hj (by rw [e0, e1]; exact hne) (by rcases e2 with h | h <;> omega)
   exact ⟨p, hp, c, f0.trans e0, f1.trans e1, by rcases e2 with h | h <;> omega⟩
theorem counts_one {A : List S85} {p q : Nat} (hp : p < A.length) (hq : q < A.length) (cp : Counts A p) (cq : Counts A q) (e0 : (rd_T85 A (p : Int)).f0 = (rd_T85 A (q : Int)).f0) (e1 : (rd_T85 A (p : Int)).f1 = (rd_T85 A (q : Int)).f1) : p = q := by
 have h1 := cp.2 q hq
 have h2 := cq.2 p hp
 unfold BeatsAt at h1 h2
 by_cases e : p = q
 ·exact e
 ·exfalso
  rcases Int.lt_trichotomy (rd_T85 A (p : Int)).f2 (rd_T85 A (q : Int)).f2 with h | h | h
  ·exact h2 ⟨e0, e1, .inl h⟩
  ·rcases Nat.lt_or_ge p q with h3 | h3
   ·exact h2 ⟨e0, e1, .inr ⟨h, h3⟩⟩
   ·exact h1 ⟨e0.symm, e1.symm, .inr ⟨h.symm, by omega⟩⟩
  ·exact h1 ⟨e0.symm, e1.symm, .inl h⟩
theorem rowB_all {f : Int → Bool} : ∀ n : Nat, (∀ x : Nat, x < n → f (x : Int) = true) → (rowB n f).length = n
 | 0, _ => by simp [rowB]
 | n + 1, h => by
  rw [rowB_yes (h n (by omega)), List.length_append, rowB_all n (fun x hx => h x (by omega))]
  rfl
theorem rd_rep {n : Nat} {a : Int} {x : Nat} (h : x < n) : rd (List.replicate n a) (x : Int) = a := by
 simp [rd, List.getD, h]
theorem BI.start {n : Nat} {A : List S85} {K : List Int} (h : MapOk n A) (hk : ∀ q : Nat, q < A.length → (rd K (q : Int) = 1 ↔ Counts A q)) {L : List S156} (hl : L.length ≤ 480)
  (hm : ∀ y, y ∈ L ↔ ∃ q : Nat, q < A.length ∧ rd K (q : Int) = 1 ∧ y = ⟨(rd_T85 A (q : Int)).f0, (rd_T85 A (q : Int)).f1, ⟨(rd_T85 A (q : Int)).f2, -1, (q : Int)⟩⟩) :
  BI n (EA A) 0 ⟨n, List.replicate n 1, L, List.replicate n 0⟩ (List.replicate n 0) [] := by
 have hin : ∀ x : Int, 0 ≤ x → x < n → isP ⟨n, List.replicate n 1, L, List.replicate n 0⟩ x = true := fun x x0 x1 => by
  obtain ⟨x, rfl⟩ := Int.eq_ofNat_of_zero_le x0
  unfold isP
  simp only
  rw [rd_rep (by omega)]
  simp; omega
 have ha := fun q hq => h.arcs _ (rd79_mem (A := A) (i := q) hq)
 refine ⟨⟨rfl, by simp, fun y hy => ?_, fun x hx y hy e0 e1 => ?_⟩, ?_, by simp, by simp only; omega, by simp, fun v hv hv2 => ?_, fun u v hu hv h1 => ?_, fun x hx => by simp at hx, fun y hy => ?_, List.Pairwise.nil, fun y hy => ?_, fun x hx => by simp at hx, fun rk' H' ext hyp s u d s0 s1 u0 u1 hw => ?_⟩
 ·obtain ⟨q, hq, h1, rfl⟩ := (hm y).1 hy
  have := ha q hq
  exact ⟨hin _ this.f0 this.f1, hin _ this.t0 this.t1, ((hk q hq).1 h1).1, this.w0, by simp only [wmR]; exact this.w1⟩
 ·obtain ⟨p, hp, h1, rfl⟩ := (hm x).1 hx
  obtain ⟨q, hq, h2, rfl⟩ := (hm y).1 hy
  obtain rfl := counts_one hp hq ((hk p hp).1 h1) ((hk q hq).1 h2) e0 e1
  rfl
 ·unfold placesP
  rw [rowB_all n (fun x hx => by simp only; rw [rd_rep hx]; rfl)]
  rfl
 ·rw [hin v (by omega) (by omega)] at hv2; cases hv2
 ·rw [hin u (by omega) (by omega)] at h1; cases h1
 ·obtain ⟨q, hq, h1, rfl⟩ := (hm y).1 hy
  have := h.few
  exact .inl ⟨rfl, by simp only; omega, by simp only; omega⟩
 ·obtain ⟨q, hq, h1, rfl⟩ := (hm y).1 hy
  exact Wk.one ⟨_, rd79_mem hq, rfl, rfl, rfl⟩
 ·obtain ⟨d1, h1, h2⟩ := Wk.sub (F := EL L) (fun a b w ⟨x, hx, e0, e1, e2⟩ => by
   obtain ⟨q, hq, rfl⟩ := mem79 hx
   by_cases hne : (rd_T85 A (q : Int)).f0 = (rd_T85 A (q : Int)).f1
   ·refine ⟨0, by have := (ha q hq).w0; omega, ?_⟩
    rw [← e0, ← e1, ← hne]
    exact Wk.nil _ _
   ·obtain ⟨p, hp, c, f0, f1, f2⟩ := counts_best h.few (fun q hq => (ha q hq).w0) _ q hq hne (Nat.le_refl _)
    exact ⟨(rd_T85 A (p : Int)).f2, by omega, Wk.one ⟨_, (hm _).2 ⟨p, hp, (hk p hp).2 c, rfl⟩, by simp only; omega, by simp only; omega, rfl⟩⟩) hw
  obtain ⟨d2, h3, h4⟩ := hyp s u d1 (hin s (by omega) (by omega)) (hin u (by omega) (by omega)) h2
  exact ⟨d2, by omega, h4⟩
def partP (x n : Int) : Int := if Int.tmod x n < 0 then Int.tmod x n + n else Int.tmod x n
theorem partP_ok (x n : Int) (h : 0 < n) : 0 ≤ partP x n ∧ partP x n < n := by
 have h1 : Int.tmod x n < n := Int.tmod_lt_of_pos x h
 have h2 : -n < Int.tmod x n := Int.lt_tmod_of_pos x h
 unfold partP
 split <;> omega
theorem part_walk (w : World) (x n : Int) (h : 0 < n) (hn : n ≤ 2147483649) : Calls Tryz.prog 70 #[.int .i64 x, .int .i64 n] w fun r w' => r = .returned (.int .i64 (partP x n)) ∧ w = w' := by
 have h1 : Int.tmod x n < n := Int.tmod_lt_of_pos x h
 have h2 : -n < Int.tmod x n := Int.lt_tmod_of_pos x h
 have z0 : (n == 0) = false := beq_eq_false_iff_ne.mpr (by omega)
 have z1 : (n != 0) = true := bne_iff_ne.mpr (by omega)
 by_cases c : Int.tmod x n < 0
 ·have hp : partP x n = Int.tmod x n + n := if_pos c
  have hw : wrap64 (Int.tmod x n + n) = Int.tmod x n + n := by unfold wrap64; omega
  have c0 : decide (Int.tmod x n < 0) = true := decide_eq_true c
  rw [hp]
  clear hp c
  go_enter Tryz.func70, Tryz.ntmps70
  go_wp2
  go_ret
  exact ⟨rfl, rfl⟩
 ·have hp : partP x n = Int.tmod x n := if_neg c
  have c0 : decide (Int.tmod x n < 0) = false := decide_eq_false c
  rw [hp]
  clear hp c
  go_enter Tryz.func70, Tryz.ntmps70
  go_wp2
  go_ret
  exact ⟨rfl, rfl⟩
set_option maxRecDepth 100000 in
set_option maxHeartbeats 4000000 in
theorem mcheck_walk (w : World) (n : Nat) (A : List S85) (Aa : Option Addr) (ca : Nat) (hC : Kd.C k85 w Aa A.length A) (hca : A.length ≤ ca) (hok : MapOk n A) :
  Calls Tryz.prog 74 #[.agg #[.int .i64 n, .slice Aa A.length ca]] w fun r w' => r = .returned (.int .i64 0) ∧ Below w.heap.size w w' := by
 have HA : Hid (∀ i : Nat, i < A.length → ArcOk n (rd_T85 A (i : Int))) := Lib.hid (fun i hi => hok.arcs _ (rd79_mem hi))
 have h12 := hok.n1
 have hfew := hok.few
 have HC := Lib.hid hC
 clear hC hok
 generalize A.length = len at *
 have HB0 : Hid (Below w.heap.size w (w.alloc (.cells #[.int .i64 n, .slice Aa len ca] 24))) := Lib.hid ((Below.refl _ _).alloc (Nat.le_refl _) _)
 have HX0 := Lib.hid (blk_new w (.cells #[.int .i64 n, .slice Aa len ca] 24))
 have c0 := (blk_cell HX0.out 0).trans rfl
 have c1 := (blk_cell HX0.out 1).trans rfl
 have cl := blk_lt HX0.out
 go_enter Tryz.func74, Tryz.ntmps74
 go_wp2_with fail
 generalize w.alloc (.cells #[.int .i64 n, .slice Aa len ca] 24) = W1 at *
 go_loopw [3] (fun v3 wr => ∃ i : Nat, v3 = .int .i64 i ∧ i ≤ len ∧ Hid (Below W1.heap.size W1 wr)) (fun v3 _ => len - (intOf v3).toNat)
 case atStart => exact ⟨0, rfl, by omega, Lib.hid (Below.refl _ _)⟩
 case round =>
  obtain ⟨i, rfl, hi, HG⟩ := hrel
  have HXr := Lib.hid ((HG.out.block _ (blk_lt HX0.out)).trans HX0.out)
  clear c0 c1 cl
  have c0 := (blk_cell HXr.out 0).trans rfl
  have c1 := (blk_cell HXr.out 1).trans rfl
  have cl := blk_lt HXr.out
  by_cases hlt : i < len
  ·obtain ⟨ad, hA2, r0, r1, r2⟩ := at_T85 (Kd.C_below HC.out (HB0.out.trans (HG.out.mono HB0.out.size))) (i : Int) (by omega) (by omega)
   have hab := HA.out i hlt
   simp only [Int.toNat_natCast] at r0 r1 r2
   generalize rd_T85 A (i : Int) = e at *
   obtain ⟨a, b, x⟩ := e
   simp only at r0 r1 r2
   obtain ⟨ha0, ha1, hb0, hb1, hx0, hx1⟩ := hab
   simp only at ha0 ha1 hb0 hb1 hx0 hx1
   have hi0 : (0 : Int) ≤ (i : Int) := Int.natCast_nonneg _
   have hi1 : (i : Int) < (len : Int) := by omega
   have HB6 := Lib.hid (HG.out.alloc HG.out.size (.cells #[.int .i64 a, .int .i64 b, .int .i64 x] 85))
   have HX6 := Lib.hid (blk_new wr (.cells #[.int .i64 a, .int .i64 b, .int .i64 x] 85))
   have HM6 := Lib.hid (blk_alloc HXr.out (.cells #[.int .i64 a, .int .i64 b, .int .i64 x] 85))
   subst hA2
   go_upto_region 9 with fail
   clear c0 c1 cl r0 r1 r2
   have d0 := (blk_cell HX6.out 0).trans rfl
   have d1 := (blk_cell HX6.out 1).trans rfl
   have d2 := (blk_cell HX6.out 2).trans rfl
   have dl := blk_lt HX6.out
   have c0 := (blk_cell HM6.out 0).trans rfl
   have cl := blk_lt HM6.out
   generalize wr.alloc (.cells #[.int .i64 a, .int .i64 b, .int .i64 x] 85) = W6 at *
   have t0 : decide (a < 0) = false := by simp; omega
   have t1 : decide (a ≥ (n : Int)) = false := by simp; omega
   have t2 : decide (b < 0) = false := by simp; omega
   have t3 : decide (b ≥ (n : Int)) = false := by simp; omega
   have t4 : decide (x < 0) = false := by simp; omega
   have t5 : decide (x > 2147483648) = false := by simp; omega
   go_wp2_with fail
   go_roundw
   case measure => simp [intOf]; omega
   case rel => exact ⟨i + 1, by go_num, by omega, HB6⟩
  ·have hil : len ≤ i := by omega
   go_wp2_with fail
   go_ret
   exact ⟨rfl, HB0.out.trans (HG.out.mono HB0.out.size)⟩
attribute [local go_sem] max2_int min2_int max_two min_two
theorem cellAllocG {w : World} {o : Obj} {a : Addr} {v : Value} (h : w.cell? a = some v) : (w.alloc o).cell? a = some v := by
 have hl := World.block_lt_of_cell? w a h
 exact ((Below.refl w.heap.size w).alloc (Nat.le_refl _) o).cell (p := a) hl |>.trans h
def ofS (n : Int) (a : S85) : S85 := ⟨partP a.f0 n, partP a.f1 n, partP a.f2 2147483649⟩
def ofL (n : Int) (l : List S85) : List S85 := (l.take 40).map (ofS n)
def ofN (a : Int) : Int := max 1 (min a 12)
theorem ofL_ok (a : Int) (l : List S85) : ∃ n : Nat, ofN a = n ∧ MapOk n (ofL (ofN a) l) := by
 have h1 : 1 ≤ ofN a := by unfold ofN; omega
 have h2 : ofN a ≤ 12 := by unfold ofN; omega
 obtain ⟨n, hn⟩ := Int.eq_ofNat_of_zero_le (show 0 ≤ ofN a by omega)
 rw [hn] at h1 h2 ⊢
 refine ⟨n, rfl, by omega, by omega, by unfold ofL; simp; omega, fun x hx => ?_⟩
 obtain ⟨y, _, rfl⟩ := List.mem_map.1 hx
 have p0 := partP_ok y.f0 n (by omega)
 have p1 := partP_ok y.f1 n (by omega)
 have p2 := partP_ok y.f2 2147483649 (by omega)
 exact ⟨p0.1, p0.2, p1.1, p1.2, p2.1, by have := p2.2; simp only [ofS]; omega⟩
theorem of_take (n : Int) (l : List S85) (i : Nat) (h : i < l.length) : (l.take (i + 1)).map (ofS n) = (l.take i).map (ofS n) ++ [ofS n (rd_T85 l (i : Int))] := by
 rw [List.take_succ_eq_append_getElem h, List.map_append]
 simp [rd_T85, List.getD, h]
structure OfR (w W : World) (n : Int) (vk : Value) (K : List S85) : Prop where
 zb : W.heap[w.heap.size]? = some (.cells #[.int .i64 0, .slice none 0 0] 24 (0, 0))
 mb : W.heap[w.heap.size + 1]? = some (.cells #[.int .i64 n, vk] 24 (0, 0))
 bel : Below w.heap.size w W
 rk : Kd.R k85 85 W w.heap.size (fun _ => True) vk K
theorem OfR.below {w W W' : World} {n : Int} {vk : Value} {K : List S85} (h : OfR w W n vk K) (b : Below W.heap.size W W') : OfR w W' n vk K :=
 ⟨(b.block _ (blk_lt h.zb)).trans h.zb, (b.block _ (blk_lt h.mb)).trans h.mb, h.bel.trans (b.mono h.bel.size), Kd.R_below h.rk b⟩
theorem OfR.app {w W w2 : World} {n : Int} {vk vk' : Value} {K K' : List S85} (h : OfR w W n vk K) (hg : W.grownBy w2 vk.ownBlock) (hR : Kd.R k85 85 w2 w.heap.size (fun _ => True) vk' K') (hB : Below w.heap.size w w2) : OfR w (w2.setCell ⟨w.heap.size + 1, 1, none⟩ vk') n vk' K' := by
 have hm := (hg.block _ (blk_lt h.mb) (Kd.R_ne h.rk h.mb (by decide))).trans h.mb
 have hz := (hg.block _ (blk_lt h.zb) (Kd.R_ne h.rk h.zb (by decide))).trans h.zb
 exact ⟨(Below.heap_setCell w2 ⟨w.heap.size + 1, 1, none⟩ _ _ (by simp)).trans hz, blk_put hm 1 vk' rfl, hB.setCell (p := ⟨w.heap.size + 1, 1, none⟩) (by simp) _, Kd.R_set hR hm (by decide) 1 _⟩
set_option maxRecDepth 100000 in
set_option maxHeartbeats 4000000 in
theorem of6_walk (w : World) (a0 : Int) (l : List S85) (Aa : Option Addr) (ca : Nat) (hC : Kd.C k85 w Aa l.length l) (hca : l.length ≤ ca) :
  Calls Tryz.prog 31 #[.int .i64 a0, .slice Aa l.length ca] w fun r w' => ∃ v, r = .returned (.agg #[.int .i64 (ofN a0), v]) ∧ Kd.R k85 85 w' w.heap.size (fun _ => True) v (ofL (ofN a0) l) ∧ Below w.heap.size w w' := by
 have hle := hC.2.1
 have HC := Lib.hid hC
 have hn1 : 1 ≤ ofN a0 := by unfold ofN; omega
 have hn2 : ofN a0 ≤ 12 := by unfold ofN; omega
 have HOF : Hid ((if 1 < if 12 < a0 then 12 else a0 then if 12 < a0 then 12 else a0 else 1) = ofN a0) := Lib.hid (by unfold ofN; split <;> split at * <;> omega)
 clear hC
 generalize ofN a0 = n at *
 have HG0 : Hid (Below w.heap.size w (w.alloc (.cells #[.int .i64 0, .slice none 0 0] 24))) := Lib.hid ((Below.refl _ _).alloc (Nat.le_refl _) _)
 obtain ⟨len, hlen⟩ : ∃ len, l.length = len := ⟨_, rfl⟩
 have HLEN := Lib.hid hlen
 rw [hlen] at HC hca hle ⊢
 clear hlen
 go_enter Tryz.func31, Tryz.ntmps31
 go_upto_region 3 with fail
 rw [HOF.out]
 clear HOF
 generalize (if 12 < a0 then 12 else a0) = q9 at *
 have HS : Hid (OfR w ((w.alloc (.cells #[.int .i64 0, .slice none 0 0] 24)).alloc (.cells #[.int .i64 n, .slice none 0 0] 24)) n (.slice none 0 0) []) := Lib.hid ⟨blk_alloc (blk_new w _) _, by have := blk_new (w.alloc (.cells #[.int .i64 0, .slice none 0 0] 24)) (.cells #[.int .i64 n, .slice none 0 0] 24); rw [World.size_alloc] at this; exact this, ((Below.refl _ _).alloc (Nat.le_refl _) _).alloc (by simp) _, Kd.R_nil _ _ _ _ _⟩
 generalize (w.alloc (.cells #[.int .i64 0, .slice none 0 0] 24)).alloc (.cells #[.int .i64 n, .slice none 0 0] 24) = W1 at *
 go_wp2_with fail
 go_loopw [6] (fun v6 wr => ∃ (i : Nat) (vk : Value), v6 = .int .i64 i ∧ i ≤ len ∧ i ≤ 40 ∧ Hid (OfR w wr n vk ((l.take i).map (ofS n)))) (fun v6 _ => len - (intOf v6).toNat)
 case atStart => exact ⟨0, _, rfl, by omega, by omega, HS⟩
 case round =>
  obtain ⟨i, vk, rfl, hi, h40, HN⟩ := hrel
  clear HS
  by_cases hlt : i < len ∧ i < 40
  ·obtain ⟨hl1, hl2⟩ := hlt
   obtain ⟨ad, hA2, r0, r1, r2⟩ := at_T85 (Kd.C_below HC.out HN.out.bel) (i : Int) (by omega) (by omega)
   have HTK := Lib.hid (of_take n l i (by have := HLEN.out; omega))
   have hKl : ((l.take i).map (ofS n)).length ≤ 40 := by simp; omega
   simp only [Int.toNat_natCast] at r0 r1 r2
   generalize hE : rd_T85 l (i : Int) = e at *
   obtain ⟨a, b, x⟩ := e
   simp only at r0 r1 r2
   unfold ofS at HTK
   simp only at HTK
   generalize hKK : (l.take i).map (fun a => (⟨partP a.f0 n, partP a.f1 n, partP a.f2 2147483649⟩ : S85)) = acc at HTK
   have hKK' : (l.take i).map (ofS n) = acc := hKK
   rw [hKK'] at HN hKl
   have HTK' : Hid ((l.take (i + 1)).map (ofS n) = acc ++ [⟨partP a n, partP b n, partP x 2147483649⟩]) := HTK
   have hi0 : (0 : Int) ≤ (i : Int) := Int.natCast_nonneg _
   have hi1 : (i : Int) < (len : Int) := by omega
   have hi2 : (i : Int) < 40 := by omega
   have HP0 : Hid (∀ W, Calls Tryz.prog 70 #[.int .i64 a, .int .i64 n] W fun r w' => r = .returned (.int .i64 (partP a n)) ∧ W = w') := Lib.hid (fun W => part_walk W a n (by omega) (by omega))
   have HP1 : Hid (∀ W, Calls Tryz.prog 70 #[.int .i64 b, .int .i64 n] W fun r w' => r = .returned (.int .i64 (partP b n)) ∧ W = w') := Lib.hid (fun W => part_walk W b n (by omega) (by omega))
   have HP2 : Hid (∀ W, Calls Tryz.prog 70 #[.int .i64 x, .int .i64 2147483649] W fun r w' => r = .returned (.int .i64 (partP x 2147483649)) ∧ W = w') := Lib.hid (fun W => part_walk W x _ (by omega) (by omega))
   generalize partP a n = pa at *
   generalize partP b n = pb at *
   generalize partP x 2147483649 = px at *
   clear HTK hKK hKK' hE
   have HX6 := Lib.hid (blk_new wr (.cells #[.int .i64 a, .int .i64 b, .int .i64 x] 85))
   have HN6 := Lib.hid (HN.out.below ((Below.refl _ _).alloc (Nat.le_refl _) (.cells #[.int .i64 a, .int .i64 b, .int .i64 x] 85)))
   have HRL : Hid (∀ k, vk.ownBlock = some k → k < wr.heap.size) := Lib.hid (fun k hk => Kd.R_lt HN.out.rk k hk)
   subst hA2
   go_upto_region 7 with fail
   clear r0 r1 r2
   generalize wr.alloc (.cells #[.int .i64 a, .int .i64 b, .int .i64 x] 85) = W6 at *
   have c1 := (blk_cell HN6.out.mb 1).trans rfl
   have d0 := (blk_cell HX6.out 0).trans rfl
   have d1 := (blk_cell HX6.out 1).trans rfl
   have d2 := (blk_cell HX6.out 2).trans rfl
   have HND : Hid (OfR w W6.drew n vk acc) := Lib.hid (HN6.out.below (Below.refl _ _).drew)
   refine start_ (n := 18) (S := fun w' => w'.cell? ⟨w.heap.size + 1, 1, none⟩ = some vk ∧ w'.cell? ⟨wr.heap.size, 0, none⟩ = some (.int .i64 a) ∧ w'.cell? ⟨wr.heap.size, 1, none⟩ = some (.int .i64 b) ∧ w'.cell? ⟨wr.heap.size, 2, none⟩ = some (.int .i64 x)) (ds := [17]) (bA_ 18 0) (by kernel_rfl) rfl rfl ⟨c1, d0, d1, d2⟩ (fun hHeld => ?_)
   refine p2_ 0 27 (bA_ 18 1) ?_
   refine p2_ 2 29 (bA_ 18 5) ?_
   refine p2_ 4 31 (bA_ 18 21) ?_
   refine p2_ 6 33 (bA_ 18 85) ?_
   refine p2_ 8 35 (bA_ 18 341) ?_
   refine p2_ 10 37 (bA_ 18 1365) ?_
   refine t2_ 1 28 (bA_ 18 1367) hHeld ?_ (hy := by rintro w' ⟨s0, s1, s2, s3⟩; go_simp; with_reducible rfl)
   refine t2_ 3 30 (bA_ 18 1375) hHeld ?_ (hy := by rintro w' ⟨s0, s1, s2, s3⟩; go_simp; with_reducible rfl)
   refine t2_ 7 34 (bA_ 18 1503) hHeld ?_ (hy := by rintro w' ⟨s0, s1, s2, s3⟩; go_simp; with_reducible rfl)
   refine t2_ 11 38 (bA_ 18 3551) hHeld ?_ (hy := by rintro w' ⟨s0, s1, s2, s3⟩; go_simp; with_reducible rfl)
   refine o2_ 5 32 (bA_ 18 3583) (fun K hK => ?_)
   refine g2_ Tryz.func70 #[.int .i64 a, .int .i64 n] ?_
   with_reducible refine (HP0.out _).mono ?_
   rintro e w1 ⟨rfl, rfl⟩
   refine ⟨_, rfl, ?_⟩
   refine hK.out _ _ ⟨c1, d0, d1, d2⟩ (fun hHeld => ?_)
   clear hK K
   refine n2_ 32 ?_
   refine o2_ 9 36 (bA_ 18 4095) (fun K hK => ?_)
   refine g2_ Tryz.func70 #[.int .i64 b, .int .i64 n] ?_
   with_reducible refine (HP1.out _).mono ?_
   rintro e w1 ⟨rfl, rfl⟩
   refine ⟨_, rfl, ?_⟩
   refine hK.out _ _ ⟨c1, d0, d1, d2⟩ (fun hHeld => ?_)
   clear hK K
   refine n2_ 36 ?_
   refine o2_ 12 39 (bA_ 18 8191) (fun K hK => ?_)
   refine g2_ Tryz.func70 #[.int .i64 x, .int .i64 2147483649] ?_
   with_reducible refine (HP2.out _).mono ?_
   rintro e w1 ⟨rfl, rfl⟩
   refine ⟨_, rfl, ?_⟩
   refine hK.out _ _ ⟨c1, d0, d1, d2⟩ (fun hHeld => ?_)
   clear hK K
   refine n2_ 39 ?_
   refine p2_ 13 40 (bA_ 18 16383) ?_
   refine o2_ 14 41 (bA_ 18 32767) (fun K hK => ?_)
   refine value_ (w1 := ?_) (v := ?_) (by rfl) rfl ?_ ?_
   rotate_left 2
   ·go_simp
    constructor
    ·rfl
    ·rfl
   refine hK.out _ _ ⟨(cellAllocG c1), (cellAllocG d0), (cellAllocG d1), (cellAllocG d2)⟩ (fun hHeld => ?_)
   clear hK K
   refine n2_ 41 ?_
   refine o2_ 15 42 (bA_ 18 65535) (fun K hK => ?_)
   refine Kd.R_append_step k85 (w0 := w) (W := W6.drew) w.heap.size (by rfl) (.tmp 28) (.tmp 41) 22 85 (.agg #[(.int .i64 0), (.int .i64 0), (.int .i64 0)]) 24 rfl Tryz.underlying22 info85 rfl (by decide) (by omega) vk acc (⟨pa, pb, px⟩ : S85) [.int .i64 pa, .int .i64 pb, .int .i64 px] (fun _ => True) (fun _ => False) rfl rfl (k85_mkM _ _ _ (⟨pa, pb, px⟩ : S85)) (fun _ h => h.elim) (fun _ _ => trivial) HND.out.rk HND.out.bel HND.out.bel.size (by omega) ?_
   intro vk' w7 hR hB hG _
   obtain ⟨A9, c9, hv9⟩ := Kd.R_slice hR
   generalize (acc ++ [(⟨pa, pb, px⟩ : S85)]).length = m9 at hv9
   subst hv9
   have HN7 := Lib.hid (OfR.app HND.out hG hR hB)
   have hm := (hG.block _ (blk_lt HND.out.mb) (Kd.R_ne HND.out.rk HND.out.mb (by decide))).trans HND.out.mb
   have hx := (hG.block _ (blk_lt HX6.out) (fun e => by have := HRL.out _ e.symm; omega)).trans HX6.out
   have hml := blk_lt hm
   have hmf : ∀ j, w7.frozen? ⟨w.heap.size + 1, j, none⟩ = false := fun j => blk_frozen hm j
   clear hR hB hG
   refine hK.out _ _ ⟨((blk_cell hm 1).trans rfl), ((blk_cell hx 0).trans rfl), ((blk_cell hx 1).trans rfl), ((blk_cell hx 2).trans rfl)⟩ (fun hHeld => ?_)
   clear hK K
   refine n2_ 42 ?_
   refine p2_ 16 43 (bA_ 18 131071) ?_
   refine last_ (i := 17) (N := none) (bA_ 18 262143) rfl rfl (by kernel_rfl) (by decide) (fun K hK => ?_)
   refine skip_ (w1 := ?_) (by rfl) rfl ?_ ?_
   rotate_left
   ·go_simp
    rfl
   refine hK.out _ _ ?_
   clear hK K
   refine done_ (by kernel_rfl) ?_
   go_wp2_with fail
   go_roundw
   case measure => simp [intOf]; omega
   case rel => exact ⟨i + 1, _, by go_num, by omega, by omega, by rw [HTK'.out]; exact HN7⟩
  ·have HE : Hid ((l.take i).map (ofS n) = ofL n l) := Lib.hid (by
    unfold ofL
    rcases Nat.lt_or_ge i 40 with h | h
    ·rw [List.take_of_length_le (by have := HLEN.out; omega), List.take_of_length_le (by have := HLEN.out; omega)]
    ·rw [show i = 40 by omega])
   rw [HE.out] at HN
   obtain ⟨Y, z, hvk⟩ := Kd.R_slice HN.out.rk
   generalize hy : (ofL n l).length = y at hvk
   subst hvk
   have b0 := (blk_cell HN.out.mb 0).trans rfl
   have b1 := (blk_cell HN.out.mb 1).trans rfl
   have bl := blk_lt HN.out.mb
   have z0 := (blk_cell HN.out.zb 0).trans rfl
   have z1 := (blk_cell HN.out.zb 1).trans rfl
   have zl := blk_lt HN.out.zb
   have zf : ∀ j, wr.frozen? ⟨w.heap.size, j, none⟩ = false := fun j => blk_frozen HN.out.zb j
   have p0 := blk_put HN.out.zb 0 (.int .i64 n) (cs' := #[.int .i64 n, .slice none 0 0]) rfl
   have HP2 := Lib.hid (blk_put p0 1 (.slice Y y z) (cs' := #[.int .i64 n, .slice Y y z]) rfl)
   have HRK := Lib.hid (Kd.R_set (Kd.R_set HN.out.rk HN.out.zb (by decide) 0 (.int .i64 n)) p0 (by decide) 1 (.slice Y y z))
   have HBE := Lib.hid ((HN.out.bel.setCell (p := ⟨w.heap.size, 0, none⟩) (by simp) (.int .i64 n)).setCell (p := ⟨w.heap.size, 1, none⟩) (by simp) (.slice Y y z))
   clear p0
   have hexit : Hid (∀ (r : Ending) (w' : World), (∃ v, r = .returned (.agg #[.int .i64 n, v]) ∧ Kd.R k85 85 w' w.heap.size (fun _ => True) v (ofL n l) ∧ Below w.heap.size w w') → ∃ v, r = .returned (.agg #[.int .i64 n, v]) ∧ Kd.R k85 85 w' w.heap.size (fun _ => True) v (ofL n l) ∧ Below w.heap.size w w') := Lib.hid (fun _ _ h => h)
   have t40 : decide ((i : Int) < (len : Int)) = true → decide ((i : Int) < 40) = false := fun h => by simp at h ⊢; omega
   by_cases hil : i < len
   ·have h1 : (i : Int) < (len : Int) := by omega
    have h2 : ¬ (i : Int) < 40 := by omega
    go_wp2_with fail
    all_goals (try rw [Exit.noGoto_ret])
    all_goals (refine bodyPost_ret (results_cell_row rfl _ _ w.heap.size 24 #[.int .i64 n, .slice Y y z] (0, 0) _ rfl HP2.out Tryz.underlying24 rfl (by kernel_rfl)) rfl ?_)
    all_goals exact ⟨_, rfl, HRK.out, HBE.out⟩
   ·have h1 : ¬ (i : Int) < (len : Int) := by omega
    go_wp2_with fail
    all_goals (try rw [Exit.noGoto_ret])
    all_goals (refine bodyPost_ret (results_cell_row rfl _ _ w.heap.size 24 #[.int .i64 n, .slice Y y z] (0, 0) _ rfl HP2.out Tryz.underlying24 rfl (by kernel_rfl)) rfl ?_)
    all_goals exact ⟨_, rfl, HRK.out, HBE.out⟩
end Go.Proofs.YtfkejflmhidnaaaGreat.PAll
namespace Go.Proofs.YtfkejflmhidnaaaGreat.PAll
open RowKit YtfkejflmhidnaaaGreatW.PrintWords YtfkejflmhidnaaaGreatW.PrintLast YtfkejflmhidnaaaGreatW.PrintMore
open Hp hiding Good
noncomputable def cntB (A : List S85) (i : Nat) : Bool := @decide (Counts A i) (Classical.propDecidable _)
theorem cntB_iff (A : List S85) (i : Nat) : cntB A i = true ↔ Counts A i := by unfold cntB; simp
theorem cntB_no {A : List S85} {i : Nat} (h : ¬ Counts A i) : cntB A i = false := by unfold cntB; simp [h]
set_option maxRecDepth 100000 in
set_option maxHeartbeats 4000000 in
theorem counts_walk (w : World) (n : Nat) (A : List S85) (Aa : Option Addr) (ca : Nat) (hC : Kd.C k85 w Aa A.length A) (hca : A.length ≤ ca) (hfew : A.length ≤ 40) (i : Nat) (hiA : i < A.length) :
  Calls Tryz.prog 75 #[.agg #[.int .i64 n, .slice Aa A.length ca], .int .i64 i] w fun r w' => r = .returned (.bool (cntB A i)) ∧ Below w.heap.size w w' := by
 have HNO : Hid (∀ j, j < A.length → BeatsAt A i j → cntB A i = false) := Lib.hid (fun j hj h => cntB_no (fun c => c.2 j hj h))
 have HYES : Hid ((rd_T85 A (i : Int)).f0 ≠ (rd_T85 A (i : Int)).f1 → (∀ j, j < A.length → ¬ BeatsAt A i j) → cntB A i = true) := Lib.hid (fun h1 h2 => (cntB_iff A i).2 ⟨h1, h2⟩)
 have HEQ : Hid ((rd_T85 A (i : Int)).f0 = (rd_T85 A (i : Int)).f1 → cntB A i = false) := Lib.hid (fun h => cntB_no (fun c => c.1 h))
 have HBD : Hid (∀ j, BeatsAt A i j ↔ (rd_T85 A (j : Int)).f0 = (rd_T85 A (i : Int)).f0 ∧ (rd_T85 A (j : Int)).f1 = (rd_T85 A (i : Int)).f1 ∧ ((rd_T85 A (j : Int)).f2 < (rd_T85 A (i : Int)).f2 ∨ (rd_T85 A (j : Int)).f2 = (rd_T85 A (i : Int)).f2 ∧ j < i)) := Lib.hid (fun j => Iff.rfl)
 have HC := Lib.hid hC
 clear hC
 generalize cntB A i = RES at *
 generalize BeatsAt A i = BT at *
 generalize A.length = len at *
 have HB0 : Hid (Below w.heap.size w (w.alloc (.cells #[.int .i64 n, .slice Aa len ca] 24))) := Lib.hid ((Below.refl _ _).alloc (Nat.le_refl _) _)
 have HX0 := Lib.hid (blk_new w (.cells #[.int .i64 n, .slice Aa len ca] 24))
 have c1 := (blk_cell HX0.out 1).trans rfl
 have cl := blk_lt HX0.out
 obtain ⟨ad, hA2, r0, r1, r2⟩ := at_T85 (Kd.C_below HC.out HB0.out) (i : Int) (by omega) (by omega)
 simp only [Int.toNat_natCast] at r0 r1 r2
 generalize rd_T85 A (i : Int) = e at *
 obtain ⟨a, b, x⟩ := e
 simp only at r0 r1 r2 HYES HEQ HBD
 have hi0 : (0 : Int) ≤ (i : Int) := Int.natCast_nonneg _
 have hi1 : (i : Int) < (len : Int) := by omega
 have HB1 := Lib.hid (HB0.out.alloc HB0.out.size (.cells #[.int .i64 a, .int .i64 b, .int .i64 x] 85))
 have HM1 := Lib.hid (blk_alloc HX0.out (.cells #[.int .i64 a, .int .i64 b, .int .i64 x] 85))
 have HX1 : Hid (((w.alloc (.cells #[.int .i64 n, .slice Aa len ca] 24)).alloc (.cells #[.int .i64 a, .int .i64 b, .int .i64 x] 85)).heap[w.heap.size + 1]? = some (.cells #[.int .i64 a, .int .i64 b, .int .i64 x] 85 (0, 0))) := Lib.hid (by have := blk_new (w.alloc (.cells #[.int .i64 n, .slice Aa len ca] 24)) (.cells #[.int .i64 a, .int .i64 b, .int .i64 x] 85); rw [World.size_alloc] at this; exact this)
 subst hA2
 go_enter Tryz.func75, Tryz.ntmps75
 go_upto_region 2 with fail
 clear c1 cl r0 r1 r2
 have d0 := (blk_cell HX1.out 0).trans rfl
 have d1 := (blk_cell HX1.out 1).trans rfl
 have dl := blk_lt HX1.out
 generalize (w.alloc (.cells #[.int .i64 n, .slice (some ad) len ca] 24)).alloc (.cells #[.int .i64 a, .int .i64 b, .int .i64 x] 85) = W1 at *
 by_cases hab : a = b
 ·have hr := HEQ.out hab
  have t0 : (a == b) = true := by simp [hab]
  have t1 : decide (a = b) = true := by simp [hab]
  subst hr
  clear HNO HYES HEQ
  go_wp2_with fail
  go_ret
  exact ⟨rfl, HB1.out⟩
 have t0 : (a == b) = false := by simp [hab]
 have t1 : decide (a = b) = false := by simp [hab]
 go_wp2_with fail
 clear t0 t1 d0 d1 dl
 go_loopw [6] (fun v6 wr => ∃ j : Nat, v6 = .int .i64 j ∧ j ≤ len ∧ Hid (Below W1.heap.size W1 wr) ∧ Hid (∀ q, q < j → ¬ BT q)) (fun v6 _ => len - (intOf v6).toNat)
 case atStart => exact ⟨0, rfl, by omega, Lib.hid (Below.refl _ _), Lib.hid (fun q hq => by omega)⟩
 case round =>
  obtain ⟨j, rfl, hj, HG, HF⟩ := hrel
  have HMr := Lib.hid ((HG.out.block _ (blk_lt HM1.out)).trans HM1.out)
  have HXr := Lib.hid ((HG.out.block _ (blk_lt HX1.out)).trans HX1.out)
  have c1 := (blk_cell HMr.out 1).trans rfl
  have cl := blk_lt HMr.out
  by_cases hlt : j < len
  rotate_left
  ·have hr := HYES.out hab (fun q hq => HF.out q (by omega))
   subst hr
   have hil : len ≤ j := by omega
   go_wp2_with fail
   go_ret
   exact ⟨rfl, HB1.out.trans (HG.out.mono HB1.out.size)⟩
  obtain ⟨ad', hA2, r0, r1, r2⟩ := at_T85 (Kd.C_below HC.out (HB1.out.trans (HG.out.mono HB1.out.size))) (j : Int) (by omega) (by omega)
  obtain rfl := Option.some.inj hA2
  have HBJ := Lib.hid (HBD.out j)
  have HNJ := Lib.hid (HNO.out j hlt)
  simp only [Int.toNat_natCast] at r0 r1 r2
  generalize rd_T85 A (j : Int) = e at *
  obtain ⟨a', b', x'⟩ := e
  simp only at r0 r1 r2 HBJ
  have hj0 : (0 : Int) ≤ (j : Int) := Int.natCast_nonneg _
  have hj1 : (j : Int) < (len : Int) := by omega
  have HB6 := Lib.hid (HG.out.alloc HG.out.size (.cells #[.int .i64 a', .int .i64 b', .int .i64 x'] 85))
  have HX6 := Lib.hid (blk_new wr (.cells #[.int .i64 a', .int .i64 b', .int .i64 x'] 85))
  have HM6 := Lib.hid (blk_alloc HXr.out (.cells #[.int .i64 a', .int .i64 b', .int .i64 x'] 85))
  go_upto_region 8 with fail
  clear c1 cl r0 r1 r2
  have d0 := (blk_cell HX6.out 0).trans rfl
  have d1 := (blk_cell HX6.out 1).trans rfl
  have d2 := (blk_cell HX6.out 2).trans rfl
  have dl := blk_lt HX6.out
  have e0 := (blk_cell HM6.out 0).trans rfl
  have e1 := (blk_cell HM6.out 1).trans rfl
  have e2 := (blk_cell HM6.out 2).trans rfl
  have el := blk_lt HM6.out
  generalize wr.alloc (.cells #[.int .i64 a', .int .i64 b', .int .i64 x'] 85) = W6 at *
  have HNX : Hid (¬ BT j → ∀ q, q < j + 1 → ¬ BT q) := Lib.hid (fun h q hq => by
   rcases Nat.lt_or_ge q j with h1 | h1
   ·exact HF.out q h1
   ·obtain rfl : q = j := by omega
    exact h)
  clear HF HYES HEQ HNO HBD
  by_cases k1 : a' = a
  rotate_left
  ·have s1 : (a' == a) = false := by simp [k1]
   have s1' : decide (a' = a) = false := by simp [k1]
   have HR := Lib.hid (HNX.out (fun h => k1 (HBJ.out.1 h).1))
   clear HNX HBJ HNJ
   go_wp2_with fail
   go_roundw
   case measure => simp [intOf]; omega
   case rel => exact ⟨j + 1, by go_num, by omega, HB6, HR⟩
  have s1 : (a' == a) = true := by simp [k1]
  have s1' : decide (a' = a) = true := by simp [k1]
  by_cases k2 : b' = b
  rotate_left
  ·have s2 : (b' == b) = false := by simp [k2]
   have s2' : decide (b' = b) = false := by simp [k2]
   have HR := Lib.hid (HNX.out (fun h => k2 (HBJ.out.1 h).2.1))
   clear HNX HBJ HNJ
   go_wp2_with fail
   go_roundw
   case measure => simp [intOf]; omega
   case rel => exact ⟨j + 1, by go_num, by omega, HB6, HR⟩
  have s2 : (b' == b) = true := by simp [k2]
  have s2' : decide (b' = b) = true := by simp [k2]
  by_cases k3 : x' < x
  ·have s3 : decide (x' < x) = true := decide_eq_true k3
   have hr := HNJ.out (HBJ.out.2 ⟨k1, k2, .inl k3⟩)
   subst hr
   clear HNX HBJ HNJ
   go_wp2_with fail
   go_ret
   exact ⟨rfl, HB1.out.trans (HB6.out.mono HB1.out.size)⟩
  have s3 : decide (x' < x) = false := decide_eq_false k3
  by_cases k4 : x' = x
  rotate_left
  ·have s4 : (x' == x) = false := by simp [k4]
   have s4' : decide (x' = x) = false := by simp [k4]
   have HR := Lib.hid (HNX.out (fun h => (HBJ.out.1 h).2.2.elim k3 (fun h => k4 h.1)))
   clear HNX HBJ HNJ
   go_wp2_with fail
   go_roundw
   case measure => simp [intOf]; omega
   case rel => exact ⟨j + 1, by go_num, by omega, HB6, HR⟩
  have s4 : (x' == x) = true := by simp [k4]
  have s4' : decide (x' = x) = true := by simp [k4]
  by_cases k5 : j < i
  ·have s5 : decide ((j : Int) < (i : Int)) = true := by simp [k5]
   have hr := HNJ.out (HBJ.out.2 ⟨k1, k2, .inr ⟨k4, k5⟩⟩)
   subst hr
   clear HNX HBJ HNJ
   go_wp2_with fail
   go_ret
   exact ⟨rfl, HB1.out.trans (HB6.out.mono HB1.out.size)⟩
  ·have s5 : decide ((j : Int) < (i : Int)) = false := by simp; omega
   have HR := Lib.hid (HNX.out (fun h => (HBJ.out.1 h).2.2.elim k3 (fun h => k5 h.2)))
   clear HNX HBJ HNJ
   go_wp2_with fail
   go_roundw
   case measure => simp [intOf]; omega
   case rel => exact ⟨j + 1, by go_num, by omega, HB6, HR⟩
set_option maxRecDepth 100000 in
set_option maxHeartbeats 4000000 in
theorem of7_walk' (w : World) (a0 : Int) (l : List S85) (Aa : Option Addr) (ca : Nat) (hC : Kd.C k85 w Aa l.length l) (hca : l.length ≤ ca) :
  Calls Tryz.prog 11 #[.int .i64 a0, .slice Aa l.length ca] w fun r w' => ∃ v, r = .returned (.agg #[.int .i64 (ofN a0), v]) ∧ Kd.R k85 85 w' w.heap.size (fun _ => True) v (ofL (ofN a0) l) ∧ Below w.heap.size w w' := by
 have HG0 : Hid (Below w.heap.size w (w.alloc (.cells #[.int .i64 0, .slice none 0 0] 24))) := Lib.hid ((Below.refl _ _).alloc (Nat.le_refl _) _)
 have HZ0 := Lib.hid (blk_new w (.cells #[.int .i64 0, .slice none 0 0] 24))
 have HO := Lib.hid (of6_walk _ a0 l Aa ca (Kd.C_below hC HG0.out) hca)
 clear hC hca
 generalize ofN a0 = n at *
 generalize ofL n l = L at *
 generalize l.length = len at *
 go_enter Tryz.func11, Tryz.ntmps11
 go_upto_region 1 with fail
 generalize w.alloc (.cells #[.int .i64 0, .slice none 0 0] 24) = W1 at *
 go_wp2_with (first | (go_at_call 31; refine HO.out.mono ?_; rintro e W2 ⟨v, rfl, hR, g⟩; obtain ⟨Y, z, hv⟩ := Kd.R_slice hR; generalize L.length = y at hv; subst hv; have HR := Lib.hid (Kd.R_lower hR HG0.out.size); have HG2 := Lib.hid (HG0.out.trans (g.mono HG0.out.size)); have HZ2 := Lib.hid ((g.block _ (blk_lt HZ0.out)).trans HZ0.out); have z0 := (blk_cell HZ2.out 0).trans rfl; have z1 := (blk_cell HZ2.out 1).trans rfl; have zl := blk_lt HZ2.out; have zf : ∀ j, W2.frozen? ⟨w.heap.size, j, none⟩ = false := fun j => blk_frozen HZ2.out j; clear hR g))
 have p0 := blk_put HZ2.out 0 (.int .i64 n) (cs' := #[.int .i64 n, .slice none 0 0]) rfl
 have p1 := blk_put p0 1 (.slice Y y z) (cs' := #[.int .i64 n, .slice Y y z]) rfl
 all_goals (try rw [Exit.noGoto_ret])
 all_goals (refine bodyPost_ret (results_cell_row rfl _ _ w.heap.size 24 #[.int .i64 n, .slice Y y z] (0, 0) _ rfl p1 Tryz.underlying24 rfl (by kernel_rfl)) rfl ?_)
 all_goals exact ⟨_, rfl, Kd.R_set (Kd.R_set HR.out HZ2.out (by decide) 0 _) p0 (by decide) 1 _, (HG2.out.setCell (p := ⟨w.heap.size, 0, none⟩) (by simp) _).setCell (p := ⟨w.heap.size, 1, none⟩) (by simp) _⟩
end Go.Proofs.YtfkejflmhidnaaaGreat.PAll
