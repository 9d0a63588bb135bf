import Derived.Test.YtfkejflmhidnaaaGreatQHpF
set_option linter.all false
namespace Go.Proofs.YtfkejflmhidnaaaGreat.PAll
open RowKit YtfkejflmhidnaaaGreatW.PrintWords YtfkejflmhidnaaaGreatW.PrintLast YtfkejflmhidnaaaGreatW.PrintMore
open Hp hiding Good
structure TP where
 n : Nat
 inn : List Int
 l : List S156
 lost : List Int
structure TAt where
 A1 : Option Addr
 c1 : Nat
 A2 : Option Addr
 c2 : Nat
 A3 : Option Addr
 c3 : Nat
def tval (t : TP) (p : TAt) : Value := .agg #[.int .i64 t.n, .slice p.A1 t.inn.length p.c1, .slice p.A2 t.l.length p.c2, .slice p.A3 t.lost.length p.c3]
def tcells (t : TP) (p : TAt) : Array Value := #[.int .i64 t.n, .slice p.A1 t.inn.length p.c1, .slice p.A2 t.l.length p.c2, .slice p.A3 t.lost.length p.c3]
structure TRep (w : World) (t : TP) (p : TAt) : Prop where
 r1 : Kd.C (Kd.int .i64) w p.A1 t.inn.length t.inn
 r2 : Kd.C k156 w p.A2 t.l.length t.l
 r3 : Kd.C (Kd.int .i64) w p.A3 t.lost.length t.lost
 k1 : t.inn.length ≤ p.c1
 k2 : t.l.length ≤ p.c2
 k3 : t.lost.length ≤ p.c3
 e1 : t.inn.length = t.n
 e3 : t.lost.length = t.n
 small : t.n ≤ 1000
 few : t.l.length ≤ 1000000
theorem TRep.below {w w1 : World} {t : TP} {p : TAt} (h : TRep w t p) (g : Below w.heap.size w w1) : TRep w1 t p :=
 ⟨Kd.C_below h.r1 g, Kd.C_below h.r2 g, Kd.C_below h.r3 g, h.k1, h.k2, h.k3, h.e1, h.e3, h.small, h.few⟩
structure TBx (w W : World) (t : TP) (p : TAt) : Prop where
 B0 : W.heap[w.heap.size]? = some (.cells (tcells t p) 121 (0, 0))
 bel : Below w.heap.size w W
theorem TBx.below {w W W' : World} {t : TP} {p : TAt} (h : TBx w W t p) (g : Below W.heap.size W W') : TBx w W' t p :=
 ⟨(g.block _ (blk_lt h.B0)).trans h.B0, h.bel.trans (g.mono h.bel.size)⟩
theorem TBx.cells {w W : World} {t : TP} {p : TAt} (h : TBx w W t p) : W.cell? ⟨w.heap.size, 0, none⟩ = some (.int .i64 t.n) ∧ W.cell? ⟨w.heap.size, 1, none⟩ = some (.slice p.A1 t.inn.length p.c1) ∧ W.cell? ⟨w.heap.size, 2, none⟩ = some (.slice p.A2 t.l.length p.c2) ∧
  W.cell? ⟨w.heap.size, 3, none⟩ = some (.slice p.A3 t.lost.length p.c3) ∧ w.heap.size < W.heap.size :=
 ⟨(blk_cell h.B0 0).trans rfl, (blk_cell h.B0 1).trans rfl, (blk_cell h.B0 2).trans rfl, (blk_cell h.B0 3).trans rfl, blk_lt h.B0⟩
theorem TBx.new (w : World) (t : TP) (p : TAt) : TBx w (w.alloc (.cells (tcells t p) 121)) t p := ⟨blk_new w _, (Below.refl _ _).alloc (Nat.le_refl _) _⟩
def isP (t : TP) (v : Int) : Bool := decide (0 ≤ v) && (decide (v < t.n) && decide (rd t.inn v = 1))
theorem is_walk (w : World) (t : TP) (p : TAt) (h : TRep w t p) (v : Int) : Calls Tryz.prog 114 #[tval t p, .int .i64 v] w fun r w' => r = .returned (.bool (isP t v)) ∧ Below w.heap.size w w' := by
 have HB := Lib.hid (TBx.new w t p)
 have HI : Hid (∃ B, isP t v = B) := Lib.hid ⟨_, rfl⟩
 obtain ⟨B, hB⟩ := HI.out
 rw [hB]
 obtain ⟨n, inn, l, lost⟩ := t
 obtain ⟨A1, k1, A2, k2, A3, k3⟩ := p
 have hs := h.small
 have he := h.e1
 have HC := Lib.hid h.r1
 simp only [tval, tcells, isP] at *
 clear h HI
 by_cases h0 : 0 ≤ v
 ·obtain ⟨u, rfl⟩ := Int.eq_ofNat_of_zero_le h0
  by_cases h1 : (u : Int) < n
  ·obtain ⟨ad, hA, hc⟩ := Kd.at_int (Kd.C_below HC.out HB.out.bel) (u : Int) (by omega) (by omega)
   have hc' : (w.alloc (.cells #[.int .i64 n, .slice A1 inn.length k1, .slice A2 l.length k2, .slice A3 lost.length k3] 121)).cell? (ad.add u) = some (.int .i64 (rd inn u)) := hc
   have hBV : Hid (B = decide (rd inn u = 1)) := Lib.hid (by rw [← hB]; simp [h1])
   have hi : (u : Int) < (inn.length : Int) := by omega
   have d1 : decide ((u : Int) < (n : Int)) = true := by simpa using h1
   have d2 : decide (u < n) = true := by rw [decide_eq_true_eq]; omega
   subst hA
   clear hc HC hB he
   generalize rd inn u = q at *
   obtain ⟨c0, c1, c2, c3, l0⟩ := HB.out.cells
   simp only [tcells] at c0 c1 c2 c3 l0
   go_enter Tryz.func114, Tryz.ntmps114
   go_wp2_with fail
   all_goals go_ret
   all_goals exact ⟨by rw [hBV.out]; rfl, HB.out.bel⟩
  ·have hBV : Hid (B = false) := Lib.hid (by rw [← hB]; simp; omega)
   have d1 : decide ((u : Int) < (n : Int)) = false := by simpa using h1
   have d2 : decide (u < n) = false := by rw [decide_eq_false_iff_not]; omega
   clear HC hB he
   obtain ⟨c0, c1, c2, c3, l0⟩ := HB.out.cells
   simp only [tcells] at c0 c1 c2 c3 l0
   go_enter Tryz.func114, Tryz.ntmps114
   go_wp2_with fail
   all_goals go_ret
   all_goals exact ⟨by rw [hBV.out]; rfl, HB.out.bel⟩
 ·have hBV : Hid (B = false) := Lib.hid (by rw [← hB]; simp [h0])
  have d0 : decide (v ≥ 0) = false := by rw [decide_eq_false_iff_not]; omega
  clear HC hB he
  obtain ⟨c0, c1, c2, c3, l0⟩ := HB.out.cells
  simp only [tcells] at c0 c1 c2 c3 l0
  go_enter Tryz.func114, Tryz.ntmps114
  go_wp2_with fail
  all_goals go_ret
  all_goals exact ⟨by rw [hBV.out]; rfl, HB.out.bel⟩
def wayP : List S156 → Int → Int → Option S69
 | [], _, _ => none
 | x :: l, u, v => if x.f0 = u ∧ x.f1 = v then some x.f2 else wayP l u v
def wayV (o : Option S69) : Value := match o with
 | none => .agg #[.int .i64 0, .int .i64 0, .int .i64 0]
 | some x => .agg #[.int .i64 x.f0, .int .i64 x.f1, .int .i64 x.f2]
theorem wayP_drop (l : List S156) (u v : Int) (i : Nat) (h : i < l.length) : wayP (l.drop i) u v = if (rd_T156 l (i : Int)).f0 = u ∧ (rd_T156 l (i : Int)).f1 = v then some (rd_T156 l (i : Int)).f2 else wayP (l.drop (i + 1)) u v := by
 rw [List.drop_eq_getElem_cons h]
 have e : rd_T156 l (i : Int) = l[i] := by simp [rd_T156, List.getD, h]
 rw [e]; rfl
theorem wayP_some {l : List S156} {u v : Int} {x : S69} (h : wayP l u v = some x) : ∃ y ∈ l, y.f0 = u ∧ y.f1 = v ∧ y.f2 = x := by
 induction l with
 | nil => cases h
 | cons y l ih =>
  simp only [wayP] at h
  by_cases e : y.f0 = u ∧ y.f1 = v
  ·rw [if_pos e] at h
   exact ⟨y, by simp, e.1, e.2, Option.some.inj h⟩
  ·rw [if_neg e] at h
   obtain ⟨z, hz, r⟩ := ih h
   exact ⟨z, by simp [hz], r⟩
theorem wayP_none {l : List S156} {u v : Int} (h : wayP l u v = none) : ∀ y ∈ l, ¬ (y.f0 = u ∧ y.f1 = v) := by
 induction l with
 | nil => intro y hy; simp at hy
 | cons z l ih =>
  simp only [wayP] at h
  by_cases e : z.f0 = u ∧ z.f1 = v
  ·rw [if_pos e] at h; cases h
  ·rw [if_neg e] at h
   intro y hy
   rcases List.mem_cons.1 hy with rfl | hy
   ·exact e
   ·exact ih h y hy
def WPost (w : World) (o : Option S69) (r : Ending) (w' : World) : Prop := r = .returned (.tuple #[wayV o, .bool o.isSome]) ∧ Below w.heap.size w w'
set_option maxRecDepth 100000 in
set_option maxHeartbeats 1000000 in
theorem way_walk (w : World) (t : TP) (p : TAt) (h : TRep w t p) (u v : Int) : Calls Tryz.prog 81 #[tval t p, .int .i64 u, .int .i64 v] w fun r w' => WPost w (wayP t.l u v) r w' := by
 have HB := Lib.hid (TBx.new w t p)
 have HC := Lib.hid (Kd.C_below h.r2 HB.out.bel)
 have hf := h.few
 obtain ⟨n, inn, l, lost⟩ := t
 obtain ⟨A1, k1, A2, k2, A3, k3⟩ := p
 simp only [tval] at *
 clear h
 obtain ⟨c0, c1, c2, c3, l0⟩ := HB.out.cells
 simp only [tcells] at c0 c1 c2 c3 l0 HB HC
 obtain ⟨len, hlen⟩ : ∃ len, l.length = len := ⟨_, rfl⟩
 have HLEN := Lib.hid hlen
 obtain ⟨l1, hl1⟩ : ∃ l1, inn.length = l1 := ⟨_, rfl⟩
 obtain ⟨l3, hl3⟩ : ∃ l3, lost.length = l3 := ⟨_, rfl⟩
 have HB0 : Hid (Below w.heap.size w (w.alloc (.cells #[.int .i64 n, .slice A1 l1 k1, .slice A2 len k2, .slice A3 l3 k3] 121))) := Lib.hid ((Below.refl _ _).alloc (Nat.le_refl _) _)
 rw [hlen, hl1, hl3] at c0 c1 c2 c3 l0 HC
 rw [hlen] at hf
 rw [hlen, hl1, hl3]
 clear hlen hl1 hl3 HB
 go_enter Tryz.func81, Tryz.ntmps81
 go_wp2_with fail
 have HW1 : Hid (∃ W, (w.alloc (.cells #[.int .i64 n, .slice A1 l1 k1, .slice A2 len k2, .slice A3 l3 k3] 121)).alloc (.cells #[.int .i64 0, .int .i64 0, .int .i64 0] 69) = W) := Lib.hid ⟨_, rfl⟩
 have hbox := blk_alloc (blk_new w (.cells #[.int .i64 n, .slice A1 l1 k1, .slice A2 len k2, .slice A3 l3 k3] 121)) (.cells #[.int .i64 0, .int .i64 0, .int .i64 0] 69)
 have hres := blk_new (w.alloc (.cells #[.int .i64 n, .slice A1 l1 k1, .slice A2 len k2, .slice A3 l3 k3] 121)) (.cells #[.int .i64 0, .int .i64 0, .int .i64 0] 69)
 rw [World.size_alloc] at hres
 have HB1 : Hid (Below w.heap.size w ((w.alloc (.cells #[.int .i64 n, .slice A1 l1 k1, .slice A2 len k2, .slice A3 l3 k3] 121)).alloc (.cells #[.int .i64 0, .int .i64 0, .int .i64 0] 69))) := Lib.hid (HB0.out.alloc (by simp) _)
 have HC1 := Lib.hid (Kd.C_alloc HC.out (.cells #[.int .i64 0, .int .i64 0, .int .i64 0] 69))
 clear c0 c1 c2 c3 l0 HC HB0 HW1
 generalize (w.alloc (.cells #[.int .i64 n, .slice A1 l1 k1, .slice A2 len k2, .slice A3 l3 k3] 121)).alloc (.cells #[.int .i64 0, .int .i64 0, .int .i64 0] 69) = W1 at *
 have c2 := (blk_cell hbox 2).trans rfl
 have l0 := blk_lt hbox
 have d0 := (blk_cell hres 0).trans rfl
 have d1 := (blk_cell hres 1).trans rfl
 have d2 := (blk_cell hres 2).trans rfl
 have f0 : ∀ j, W1.frozen? ⟨w.heap.size + 1, j, none⟩ = false := fun j => blk_frozen hres j
 have ld := blk_lt hres
 clear hbox
 have HRES := Lib.hid hres
 clear hres
 go_loopw [8] (fun v8 wr => ∃ i : Nat, v8 = .int .i64 i ∧ i ≤ len ∧ wr = W1 ∧ Hid (wayP l u v = wayP (l.drop i) u v)) (fun v8 _ => len - (intOf v8).toNat)
 case atStart => exact ⟨0, rfl, by omega, rfl, Lib.hid rfl⟩
 case round =>
  obtain ⟨i, rfl, hi, rfl, HE⟩ := hrel
  by_cases hlt : i < len
  ·obtain ⟨ad, rfl, r0, r1, r2, r3, r4⟩ := at_T156 HC1.out (i : Int) (by omega) (by omega)
   have HD := Lib.hid (wayP_drop l u v i (by have := HLEN.out; omega))
   simp only [Int.toNat_natCast] at r0 r1 r2 r3 r4
   generalize rd_T156 l (i : Int) = e at *
   obtain ⟨a, b, x, y, z⟩ := e
   simp only at r0 r1 r2 r3 r4 HD
   have hi0 : (0 : Int) ≤ (i : Int) := Int.natCast_nonneg _
   have hi1 : (i : Int) < (len : Int) := by omega
   have lad : ad.block < wr.heap.size := by
    have h := World.block_lt_of_cell? _ (ad.add (i * 5)) r0
    have e : (ad.add (i * 5)).block = ad.block := by unfold Addr.add; split <;> rfl
    rwa [e] at h
   by_cases h0 : a = u
   ·have e0 : (a == u) = true := by simp [h0]
    by_cases h1 : b = v
    ·have e1 : (b == v) = true := by simp [h1]
     have HF : Hid (wayP l u v = some ⟨x, y, z⟩) := Lib.hid (by rw [HE.out, HD.out, if_pos ⟨h0, h1⟩])
     clear h0 h1 HE HD
     go_wp2_with fail
     (try rw [Exit.noGoto_ret])
     all_goals (refine bodyPost_ret (results_ct rfl _ _ (w.heap.size + 1) 69 #[.int .i64 x, .int .i64 y, .int .i64 z] (0, 0) _ rfl (blk_put (cs := #[.int .i64 x, .int .i64 y, .int .i64 0]) (blk_put (cs := #[.int .i64 x, .int .i64 0, .int .i64 0]) (blk_put (cs := #[.int .i64 0, .int .i64 0, .int .i64 0]) HRES.out 0 _ rfl) 1 _ rfl) 2 _ rfl) Tryz.underlying69 rfl (by kernel_rfl)) rfl ?_)
     exact ⟨by rw [HF.out]; rfl, ((HB1.out.setCell (p := ⟨w.heap.size + 1, 0, none⟩) (by simp) _).setCell (p := ⟨w.heap.size + 1, 1, none⟩) (by simp) _).setCell (p := ⟨w.heap.size + 1, 2, none⟩) (by simp) _⟩
    ·have e1 : (b == v) = false := by simp [h1]
     have HF : Hid (wayP l u v = wayP (l.drop (i + 1)) u v) := Lib.hid (by rw [HE.out, HD.out, if_neg (fun f => h1 f.2)])
     clear h0 h1 HE HD
     go_wp2_with fail
     go_roundw
     case measure => simp [intOf]; omega
     case rel => exact ⟨i + 1, by go_num, by omega, (by first | rfl | trivial), HF⟩
   ·have e0 : (a == u) = false := by simp [h0]
    have HF : Hid (wayP l u v = wayP (l.drop (i + 1)) u v) := Lib.hid (by rw [HE.out, HD.out, if_neg (fun f => h0 f.1)])
    clear h0 HE HD
    go_wp2_with fail
    go_roundw
    case measure => simp [intOf]; omega
    case rel => exact ⟨i + 1, by go_num, by omega, (by first | rfl | trivial), HF⟩
  ·have HF : Hid (wayP l u v = none) := Lib.hid (by rw [HE.out, List.drop_eq_nil_of_le (by have := HLEN.out; omega)]; rfl)
   have hil : len ≤ i := by omega
   clear HE
   go_wp2_with fail
   all_goals (refine bodyPost_ret (results_ct rfl _ _ (w.heap.size + 1) 69 #[.int .i64 0, .int .i64 0, .int .i64 0] (0, 0) _ rfl (blk_put (cs := #[.int .i64 0, .int .i64 0, .int .i64 0]) (blk_put (cs := #[.int .i64 0, .int .i64 0, .int .i64 0]) (blk_put (cs := #[.int .i64 0, .int .i64 0, .int .i64 0]) HRES.out 0 _ rfl) 1 _ rfl) 2 _ rfl) Tryz.underlying69 rfl (by kernel_rfl)) rfl ?_)
   exact ⟨by rw [HF.out]; rfl, ((HB1.out.setCell (p := ⟨w.heap.size + 1, 0, none⟩) (by simp) _).setCell (p := ⟨w.heap.size + 1, 1, none⟩) (by simp) _).setCell (p := ⟨w.heap.size + 1, 2, none⟩) (by simp) _⟩
def rowB (n : Nat) (f : Int → Bool) : List Int := (List.range n).filterMap fun (x : Nat) => if f (x : Int) = true then some (x : Int) else none
theorem rowB_len (n : Nat) (f : Int → Bool) : (rowB n f).length ≤ n := by
 have := List.length_filterMap_le (fun (x : Nat) => if f (x : Int) = true then some (x : Int) else none) (List.range n)
 unfold rowB; simpa using this
theorem rowB_no {n : Nat} {f : Int → Bool} (h : f (n : Int) = false) : rowB (n + 1) f = rowB n f := by
 unfold rowB; rw [List.range_succ, List.filterMap_append]; simp [h]
theorem rowB_yes {n : Nat} {f : Int → Bool} (h : f (n : Int) = true) : rowB (n + 1) f = rowB n f ++ [(n : Int)] := by
 unfold rowB; rw [List.range_succ, List.filterMap_append]; simp [h]
theorem rowB_mem {n : Nat} {f : Int → Bool} {x : Int} : x ∈ rowB n f ↔ 0 ≤ x ∧ x < n ∧ f x = true := by
 unfold rowB
 rw [List.mem_filterMap]
 constructor
 ·rintro ⟨a, ha, e⟩
  by_cases h : f (a : Int) = true
  ·rw [if_pos h] at e
   obtain rfl := Option.some.inj e
   have := List.mem_range.1 ha
   exact ⟨by omega, by omega, h⟩
  ·rw [if_neg h] at e; cases e
 ·rintro ⟨h0, h1, h2⟩
  refine ⟨x.toNat, List.mem_range.2 (by omega), ?_⟩
  have e : ((x.toNat : Nat) : Int) = x := by omega
  rw [e, if_pos h2]
set_option maxRecDepth 100000 in
set_option maxHeartbeats 2000000 in
theorem outs_walk (w : World) (t : TP) (p : TAt) (h : TRep w t p) (v : Int) : Calls Tryz.prog 80 #[tval t p, .int .i64 v] w fun r w' => ∃ vr, r = .returned vr ∧ Kd.R (Kd.int .i64) 3 w' w.heap.size (fun _ => True) vr (rowB t.n fun x => (wayP t.l v x).isSome) ∧ Below w.heap.size w w' := by
 have HT := Lib.hid (TBx.new w t p)
 have HW : Hid (∀ W, Below w.heap.size w W → ∀ x : Int, Calls Tryz.prog 81 #[tval t p, .int .i64 v, .int .i64 x] W fun r w' => WPost W (wayP t.l v x) r w') := Lib.hid (fun W g x => way_walk W t p (h.below g) v x)
 obtain ⟨f, hf⟩ : ∃ f : Int → Option S69, f = fun x => wayP t.l v x := ⟨_, rfl⟩
 have HW' : Hid (∀ W, Below w.heap.size w W → ∀ x : Int, Calls Tryz.prog 81 #[tval t p, .int .i64 v, .int .i64 x] W fun r w' => WPost W (f x) r w') := Lib.hid (by rw [hf]; exact HW.out)
 have hn := h.small
 rw [show (fun x => (wayP t.l v x).isSome) = fun x => (f x).isSome from by rw [hf]]
 clear h hf HW
 obtain ⟨n, inn, l, lost⟩ := t
 obtain ⟨A1, k1, A2, k2, A3, k3⟩ := p
 simp only [tval] at *
 obtain ⟨c0, c1, c2, c3, l0⟩ := HT.out.cells
 simp only [tcells] at c0 c1 c2 c3 l0 HT
 obtain ⟨l2, hl2⟩ : ∃ len, l.length = len := ⟨_, rfl⟩
 obtain ⟨l1, hl1⟩ : ∃ l1, inn.length = l1 := ⟨_, rfl⟩
 obtain ⟨l3, hl3⟩ : ∃ l3, lost.length = l3 := ⟨_, rfl⟩
 have HTB : Hid (TBx w (w.alloc (.cells #[.int .i64 n, .slice A1 l1 k1, .slice A2 l2 k2, .slice A3 l3 k3] 121)) ⟨n, inn, l, lost⟩ ⟨A1, k1, A2, k2, A3, k3⟩) := Lib.hid (by rw [← hl1, ← hl2, ← hl3]; exact HT.out)
 rw [hl1, hl2, hl3] at c0 c1 c2 c3 l0 HW' ⊢
 have HL := Lib.hid (And.intro hl1 (And.intro hl2 hl3))
 clear HT hl1 hl2 hl3
 go_enter Tryz.func80, Tryz.ntmps80
 go_wp2_with fail
 generalize w.alloc (.cells #[.int .i64 n, .slice A1 l1 k1, .slice A2 l2 k2, .slice A3 l3 k3] 121) = W1 at *
 go_loopw [5, 6] (fun v5 v6 wr => ∃ i : Nat, v6 = .int .i64 i ∧ i ≤ n ∧ Hid (Kd.R (Kd.int .i64) 3 wr W1.heap.size (fun _ => True) v5 (rowB i fun x => (f x).isSome)) ∧ Hid (Below W1.heap.size W1 wr)) (fun _ v6 _ => n - (intOf v6).toNat)
 case atStart => exact ⟨0, rfl, by omega, Lib.hid (Kd.R_nil _ _ _ _ _), Lib.hid (Below.refl _ _)⟩
 case round =>
  obtain ⟨i, rfl, hi, HR, HG1⟩ := hrel
  have HB := Lib.hid (HTB.out.below HG1.out)
  clear c0 c1 c2 c3 l0
  obtain ⟨c0, c1, c2, c3, l0⟩ := HB.out.cells
  have hll := HL.out
  simp only [tcells] at c0 c1 c2 c3 l0
  rw [hll.1] at c1
  rw [hll.2.1] at c2
  rw [hll.2.2] at c3
  clear hll
  by_cases hlt : i < n
  ·have HC := Lib.hid (HW'.out wr HB.out.bel (i : Int))
   have hlen := rowB_len i fun x => (f x).isSome
   have hi0 : (0 : Int) ≤ (i : Int) := Int.natCast_nonneg _
   have hi1 : (i : Int) < (n : Int) := by omega
   have hsz : W1.heap.size ≤ wr.heap.size := HG1.out.size
   cases ho : f (i : Int) with
   | none =>
    have HN : Hid (rowB (i + 1) (fun x => (f x).isSome) = rowB i fun x => (f x).isSome) := Lib.hid (rowB_no (by rw [ho]; rfl))
    have HC' : Hid (Calls Tryz.prog 81 #[.agg #[.int .i64 n, .slice A1 l1 k1, .slice A2 l2 k2, .slice A3 l3 k3], .int .i64 v, .int .i64 i] wr fun r w' => r = .returned (.tuple #[.agg #[.int .i64 0, .int .i64 0, .int .i64 0], .bool false]) ∧ Below wr.heap.size wr w') := Lib.hid (by have := HC.out; rw [ho] at this; exact this)
    clear ho HC
    go_wp2_with (first | (go_at_call 81; refine HC'.out.mono ?_; rintro e w1 ⟨rfl, g⟩; have HG := Lib.hid g; clear g))
    go_roundw
    case measure => simp [intOf]; omega
    case rel => exact ⟨i + 1, by go_num, by omega, Lib.hid (by rw [HN.out]; exact Kd.R_alloc (Kd.R_below HR.out HG.out) _), Lib.hid ((HG1.out.trans (HG.out.mono hsz)).alloc (Nat.le_trans hsz HG.out.size) _)⟩
   | some x =>
    obtain ⟨x0, x1, x2⟩ := x
    have HN : Hid (rowB (i + 1) (fun x => (f x).isSome) = (rowB i fun x => (f x).isSome) ++ [(i : Int)]) := Lib.hid (rowB_yes (by rw [ho]; rfl))
    have HC' : Hid (Calls Tryz.prog 81 #[.agg #[.int .i64 n, .slice A1 l1 k1, .slice A2 l2 k2, .slice A3 l3 k3], .int .i64 v, .int .i64 i] wr fun r w' => r = .returned (.tuple #[.agg #[.int .i64 x0, .int .i64 x1, .int .i64 x2], .bool true]) ∧ Below wr.heap.size wr w') := Lib.hid (by have := HC.out; rw [ho] at this; exact this)
    clear ho HC
    go_wp2_with (first | (go_at_call 81; refine HC'.out.mono ?_; rintro e w1 ⟨rfl, g⟩; have hs1 : W1.heap.size ≤ w1.heap.size := Nat.le_trans hsz g.size; have HG := Lib.hid g; clear g) | (at_builtin; refine Kd.R_append (Kd.int .i64) (w0 := W1) (W := w1.alloc (.cells #[.int .i64 x0, .int .i64 x1, .int .i64 x2] 69)) W1.heap.size rfl (.tmp 23) (.tmp 25) 28 3 (.int .i64 0) 8 rfl Tryz.underlying28 info3 rfl (by decide) (by omega) _ (rowB i fun x => (f x).isSome) (i : Int) [.int .i64 i] (fun _ => True) (fun _ => False) rfl (by rw [World.size_alloc]; rfl) rfl (fun _ h => h.elim) (fun _ _ => trivial) (Kd.R_alloc (Kd.R_below HR.out HG.out) _) ((HG1.out.trans (HG.out.mono hsz)).alloc hs1 _) (by simp; omega) (by omega) ?_; intro v1 w2 hR2 hB2 hg2 _; have HR2 := Lib.hid hR2; have HB2 := Lib.hid hB2; clear hR2 hB2 hg2))
    go_roundw
    case measure => simp [intOf]; omega
    case rel => exact ⟨i + 1, by go_num, by omega, Lib.hid (by rw [HN.out]; exact HR2.out), HB2⟩
  ·have HIN : Hid (i = n) := Lib.hid (by omega)
   have hil : n ≤ i := by omega
   go_wp2_with fail
   go_ret
   rw [HIN.out] at HR
   exact ⟨_, rfl, Kd.R_lower HR.out HTB.out.bel.size, HB.out.bel⟩
set_option maxRecDepth 100000 in
set_option maxHeartbeats 2000000 in
theorem ins_walk (w : World) (t : TP) (p : TAt) (h : TRep w t p) (v : Int) : Calls Tryz.prog 82 #[tval t p, .int .i64 v] w fun r w' => ∃ vr, r = .returned vr ∧ Kd.R (Kd.int .i64) 3 w' w.heap.size (fun _ => True) vr (rowB t.n fun x => (wayP t.l x v).isSome) ∧ Below w.heap.size w w' := by
 have HT := Lib.hid (TBx.new w t p)
 have HW : Hid (∀ W, Below w.heap.size w W → ∀ x : Int, Calls Tryz.prog 81 #[tval t p, .int .i64 x, .int .i64 v] W fun r w' => WPost W (wayP t.l x v) r w') := Lib.hid (fun W g x => way_walk W t p (h.below g) x v)
 obtain ⟨f, hf⟩ : ∃ f : Int → Option S69, f = fun x => wayP t.l x v := ⟨_, rfl⟩
 have HW' : Hid (∀ W, Below w.heap.size w W → ∀ x : Int, Calls Tryz.prog 81 #[tval t p, .int .i64 x, .int .i64 v] W fun r w' => WPost W (f x) r w') := Lib.hid (by rw [hf]; exact HW.out)
 have hn := h.small
 rw [show (fun x => (wayP t.l x v).isSome) = fun x => (f x).isSome from by rw [hf]]
 clear h hf HW
 obtain ⟨n, inn, l, lost⟩ := t
 obtain ⟨A1, k1, A2, k2, A3, k3⟩ := p
 simp only [tval] at *
 obtain ⟨c0, c1, c2, c3, l0⟩ := HT.out.cells
 simp only [tcells] at c0 c1 c2 c3 l0 HT
 obtain ⟨l2, hl2⟩ : ∃ len, l.length = len := ⟨_, rfl⟩
 obtain ⟨l1, hl1⟩ : ∃ l1, inn.length = l1 := ⟨_, rfl⟩
 obtain ⟨l3, hl3⟩ : ∃ l3, lost.length = l3 := ⟨_, rfl⟩
 have HTB : Hid (TBx w (w.alloc (.cells #[.int .i64 n, .slice A1 l1 k1, .slice A2 l2 k2, .slice A3 l3 k3] 121)) ⟨n, inn, l, lost⟩ ⟨A1, k1, A2, k2, A3, k3⟩) := Lib.hid (by rw [← hl1, ← hl2, ← hl3]; exact HT.out)
 rw [hl1, hl2, hl3] at c0 c1 c2 c3 l0 HW' ⊢
 have HL := Lib.hid (And.intro hl1 (And.intro hl2 hl3))
 clear HT hl1 hl2 hl3
 go_enter Tryz.func82, Tryz.ntmps82
 go_wp2_with fail
 generalize w.alloc (.cells #[.int .i64 n, .slice A1 l1 k1, .slice A2 l2 k2, .slice A3 l3 k3] 121) = W1 at *
 go_loopw [5, 6] (fun v5 v6 wr => ∃ i : Nat, v6 = .int .i64 i ∧ i ≤ n ∧ Hid (Kd.R (Kd.int .i64) 3 wr W1.heap.size (fun _ => True) v5 (rowB i fun x => (f x).isSome)) ∧ Hid (Below W1.heap.size W1 wr)) (fun _ v6 _ => n - (intOf v6).toNat)
 case atStart => exact ⟨0, rfl, by omega, Lib.hid (Kd.R_nil _ _ _ _ _), Lib.hid (Below.refl _ _)⟩
 case round =>
  obtain ⟨i, rfl, hi, HR, HG1⟩ := hrel
  have HB := Lib.hid (HTB.out.below HG1.out)
  clear c0 c1 c2 c3 l0
  obtain ⟨c0, c1, c2, c3, l0⟩ := HB.out.cells
  have hll := HL.out
  simp only [tcells] at c0 c1 c2 c3 l0
  rw [hll.1] at c1
  rw [hll.2.1] at c2
  rw [hll.2.2] at c3
  clear hll
  by_cases hlt : i < n
  ·have HC := Lib.hid (HW'.out wr HB.out.bel (i : Int))
   have hlen := rowB_len i fun x => (f x).isSome
   have hi0 : (0 : Int) ≤ (i : Int) := Int.natCast_nonneg _
   have hi1 : (i : Int) < (n : Int) := by omega
   have hsz : W1.heap.size ≤ wr.heap.size := HG1.out.size
   cases ho : f (i : Int) with
   | none =>
    have HN : Hid (rowB (i + 1) (fun x => (f x).isSome) = rowB i fun x => (f x).isSome) := Lib.hid (rowB_no (by rw [ho]; rfl))
    have HC' : Hid (Calls Tryz.prog 81 #[.agg #[.int .i64 n, .slice A1 l1 k1, .slice A2 l2 k2, .slice A3 l3 k3], .int .i64 i, .int .i64 v] wr fun r w' => r = .returned (.tuple #[.agg #[.int .i64 0, .int .i64 0, .int .i64 0], .bool false]) ∧ Below wr.heap.size wr w') := Lib.hid (by have := HC.out; rw [ho] at this; exact this)
    clear ho HC
    go_wp2_with (first | (go_at_call 81; refine HC'.out.mono ?_; rintro e w1 ⟨rfl, g⟩; have HG := Lib.hid g; clear g))
    go_roundw
    case measure => simp [intOf]; omega
    case rel => exact ⟨i + 1, by go_num, by omega, Lib.hid (by rw [HN.out]; exact Kd.R_alloc (Kd.R_below HR.out HG.out) _), Lib.hid ((HG1.out.trans (HG.out.mono hsz)).alloc (Nat.le_trans hsz HG.out.size) _)⟩
   | some x =>
    obtain ⟨x0, x1, x2⟩ := x
    have HN : Hid (rowB (i + 1) (fun x => (f x).isSome) = (rowB i fun x => (f x).isSome) ++ [(i : Int)]) := Lib.hid (rowB_yes (by rw [ho]; rfl))
    have HC' : Hid (Calls Tryz.prog 81 #[.agg #[.int .i64 n, .slice A1 l1 k1, .slice A2 l2 k2, .slice A3 l3 k3], .int .i64 i, .int .i64 v] wr fun r w' => r = .returned (.tuple #[.agg #[.int .i64 x0, .int .i64 x1, .int .i64 x2], .bool true]) ∧ Below wr.heap.size wr w') := Lib.hid (by have := HC.out; rw [ho] at this; exact this)
    clear ho HC
    go_wp2_with (first | (go_at_call 81; refine HC'.out.mono ?_; rintro e w1 ⟨rfl, g⟩; have hs1 : W1.heap.size ≤ w1.heap.size := Nat.le_trans hsz g.size; have HG := Lib.hid g; clear g) | (at_builtin; refine Kd.R_append (Kd.int .i64) (w0 := W1) (W := w1.alloc (.cells #[.int .i64 x0, .int .i64 x1, .int .i64 x2] 69)) W1.heap.size rfl (.tmp 23) (.tmp 25) 28 3 (.int .i64 0) 8 rfl Tryz.underlying28 info3 rfl (by decide) (by omega) _ (rowB i fun x => (f x).isSome) (i : Int) [.int .i64 i] (fun _ => True) (fun _ => False) rfl (by rw [World.size_alloc]; rfl) rfl (fun _ h => h.elim) (fun _ _ => trivial) (Kd.R_alloc (Kd.R_below HR.out HG.out) _) ((HG1.out.trans (HG.out.mono hsz)).alloc hs1 _) (by simp; omega) (by omega) ?_; intro v1 w2 hR2 hB2 hg2 _; have HR2 := Lib.hid hR2; have HB2 := Lib.hid hB2; clear hR2 hB2 hg2))
    go_roundw
    case measure => simp [intOf]; omega
    case rel => exact ⟨i + 1, by go_num, by omega, Lib.hid (by rw [HN.out]; exact HR2.out), HB2⟩
  ·have HIN : Hid (i = n) := Lib.hid (by omega)
   have hil : n ≤ i := by omega
   go_wp2_with fail
   go_ret
   rw [HIN.out] at HR
   exact ⟨_, rfl, Kd.R_lower HR.out HTB.out.bel.size, HB.out.bel⟩
end Go.Proofs.YtfkejflmhidnaaaGreat.PAll
