import Derived.Test.YtfkejflmhidnaaaGreatQZTbA
import Derived.Test.YtfkejflmhidnaaaGreatQLoA
set_option linter.all false
namespace Go.Proofs.YtfkejflmhidnaaaGreat.PAll
open RowKit YtfkejflmhidnaaaGreatW.PrintWords YtfkejflmhidnaaaGreatW.PrintLast YtfkejflmhidnaaaGreatW.PrintMore
open Hp hiding Good
def idxP (l : List Int) (t : Int) : Int := if t ∈ l then (l.idxOf t : Int) else -1
theorem idxP_at {l : List Int} (hs : l.Nodup) {i : Nat} (hi : i < l.length) {t : Int} (e : rd l (i : Int) = t) : idxP l t = i := by
 rw [rd_get hi] at e
 have hm : t ∈ l := by rw [← e]; exact List.getElem_mem _
 unfold idxP
 rw [if_pos hm, ← e, hs.idxOf_getElem i hi]
theorem idxP_no {l : List Int} {t : Int} (h : t ∉ l) : idxP l t = -1 := if_neg h
theorem idxP_in {l : List Int} {t : Int} (h : t ∈ l) : ∃ i : Nat, idxP l t = i ∧ i < l.length ∧ rd l (i : Int) = t := by
 refine ⟨l.idxOf t, if_pos h, List.idxOf_lt_length_of_mem h, ?_⟩
 rw [rd_get (List.idxOf_lt_length_of_mem h)]
 exact List.getElem_idxOf (List.idxOf_lt_length_of_mem h)
theorem idxP_ge {l : List Int} {t : Int} : 0 ≤ idxP l t ↔ t ∈ l := by
 unfold idxP
 split <;> rename_i h
 ·exact ⟨fun _ => h, fun _ => by omega⟩
 ·exact ⟨fun f => by omega, fun f => absurd f h⟩
theorem lt_nodup {l : List Int} (h : l.Pairwise (fun a b => a < b)) : l.Nodup := h.imp (fun h => by omega)
theorem bs_lawI (l : List Int) (t : Int) (hs : l.Pairwise (fun a b => a < b)) (hl : l.length ≤ 1000000) : ∀ (k i j : Nat), i ≤ j → j ≤ l.length → j - i < k → (∀ p : Nat, p < i → rd l (p : Int) < t) → (∀ p : Nat, j ≤ p → p < l.length → t ≤ rd l (p : Int)) →
  ∃ r, slices_BinarySearch_int_int.l0 k l t (l.length : Int) (i : Int) (j : Int) = some (r, decide (t ∈ l)) ∧ (t ∈ l → r = idxP l t)
 | 0, i, j, _, _, h, _, _ => by omega
 | k + 1, i, j, hij, hj, hk, hlo, hhi => by
  have hrd : ∀ p : Nat, ∀ h : p < l.length, rd l (p : Int) = l[p] := fun p h => by simp [rd, List.getD, h]
  have hmono : ∀ p q : Nat, p < q → q < l.length → rd l (p : Int) < rd l (q : Int) := fun p q hpq hq => by
   rw [hrd p (by omega), hrd q hq]
   exact List.pairwise_iff_getElem.1 hs p q (by omega) hq hpq
  unfold slices_BinarySearch_int_int.l0
  by_cases hlt : i < j
  ·rw [if_pos (by omega), half_wrap (by omega), if_pos (by omega), if_pos (by omega)]
   have hh : (i + j) / 2 < j ∧ i ≤ (i + j) / 2 := by omega
   generalize (i + j) / 2 = m at *
   have hc : cmp_Less_int.f (rd l (m : Int)) t = some (decide (rd l (m : Int) < t)) := by simp [cmp_Less_int.f, cmp_isNaN_int.f]
   rw [hc, Option.bind_some]
   by_cases hm : rd l (m : Int) < t
   ·rw [if_pos (by simpa using hm)]
    have hw : wrap64 ((m : Int) + 1) = ((m + 1 : Nat) : Int) := by unfold wrap64; omega
    rw [hw]
    refine bs_lawI l t hs hl k (m + 1) j (by omega) hj (by omega) (fun p hp => ?_) hhi
    rcases Nat.lt_or_ge p m with h | h
    ·have := hmono p m h (by omega); omega
    ·have : p = m := by omega
     rw [this]; exact hm
   ·rw [if_neg (by simpa using hm)]
    refine bs_lawI l t hs hl k i m (by omega) (by omega) (by omega) hlo (fun p hp hpl => ?_)
    rcases Nat.lt_or_ge m p with h | h
    ·have := hmono m p h hpl; omega
    ·have : p = m := by omega
     rw [this]; omega
  ·have hij2 : i = j := by omega
   subst hij2
   rw [if_neg (by omega)]
   have hmem : t ∈ l ↔ i < l.length ∧ rd l (i : Int) = t := by
    constructor
    ·intro h
     obtain ⟨p, hp, e⟩ := List.getElem_of_mem h
     rw [← hrd p hp] at e
     rcases Nat.lt_trichotomy p i with h | h | h
     ·have := hlo p h; omega
     ·subst h; exact ⟨hp, e⟩
     ·have h1 := hhi i (Nat.le_refl _) (by omega)
      have h2 := hmono i p h hp
      omega
    ·rintro ⟨h, e⟩
     rw [hrd i h] at e
     rw [← e]; exact List.getElem_mem _
   by_cases hn : i < l.length
   ·rw [if_pos (by omega), if_pos (by omega), if_pos (by omega)]
    by_cases he : rd l (i : Int) = t
    ·rw [if_pos he]
     exact ⟨_, by rw [show decide (t ∈ l) = true from by simp [hmem, hn, he]], fun _ => (idxP_at (lt_nodup hs) hn he).symm⟩
    ·rw [if_neg he]
     refine ⟨(i : Int), ?_, fun h => absurd (hmem.1 h).2 he⟩
     rw [show decide (t ∈ l) = false from by simp [hmem, he]]
     simp [slices_isNaN_int.f]
   ·rw [if_neg (by omega)]
    exact ⟨_, by rw [show decide (t ∈ l) = false from by simp [hmem, hn]], fun h => absurd (hmem.1 h).1 hn⟩
theorem bsearchI_walk (w : World) (A : Option Addr) (c : Nat) (l : List Int) (t : Int) (hC : Kd.C (Kd.int .i64) w A l.length l) (hc : l.length ≤ c) (hs : l.Pairwise (fun a b => a < b)) (hl : l.length ≤ 1000000) :
  Calls Tryz.prog 41 #[.slice A l.length c, .int .i64 t] w fun r w' => ∃ i, r = .returned (.tuple #[.int .i64 i, .bool (decide (t ∈ l))]) ∧ (t ∈ l → i = idxP l t) ∧ ∃ j, w' = w.drewN j := by
 obtain ⟨r, hr, hi⟩ := bs_lawI l t hs hl (l.length + 1) 0 l.length (by omega) (by omega) (by omega) (fun p h => by omega) (fun p h1 h2 => by omega)
 refine (slices_BinarySearch_int_int.calls (l.length + 1) A c l t r (decide (t ∈ l)) w hC hc hr).mono ?_
 rintro e w' ⟨rfl, hd⟩
 obtain ⟨⟨j, rfl⟩⟩ := hd
 exact ⟨r, rfl, hi, j, rfl⟩
theorem place_walk (w : World) (A : Option Addr) (c : Nat) (l : List Int) (t : Int) (hC : Kd.C (Kd.int .i64) w A l.length l) (hc : l.length ≤ c) (hs : l.Pairwise (fun a b => a < b)) (hl : l.length ≤ 1000000) :
  Calls Tryz.prog 55 #[.slice A l.length c, .int .i64 t] w fun r w' => r = .returned (.int .i64 (idxP l t)) ∧ ∃ j, w' = w.drewN j := by
 have HS := Lib.hid (bsearchI_walk w A c l t hC hc hs hl)
 have HN := Lib.hid (fun h => idxP_no (l := l) (t := t) h)
 clear hC hc hs hl
 by_cases hm : t ∈ l
 ·have hd : decide (t ∈ l) = true := by simpa using hm
  have HM := Lib.hid hm
  rw [hd] at HS
  clear hm hd
  go_enter Tryz.func55, Tryz.ntmps55
  go_wp2_with (first | (go_at_call 41; refine HS.out.mono ?_; rintro e w1 ⟨i, rfl, hi, j, rfl⟩; have HI := Lib.hid hi; clear hi))
  all_goals go_ret
  all_goals exact ⟨by rw [HI.out HM.out]; rfl, _, rfl⟩
 ·have hd : decide (t ∈ l) = false := by simpa using hm
  have HM := Lib.hid hm
  rw [hd] at HS
  clear hm hd
  go_enter Tryz.func55, Tryz.ntmps55
  go_wp2_with (first | (go_at_call 41; refine HS.out.mono ?_; rintro e w1 ⟨i, rfl, hi, j, rfl⟩; clear hi))
  all_goals go_ret
  all_goals exact ⟨by rw [HN.out HM.out]; rfl, _, rfl⟩
def longP (d least : Int) : Bool := decide (d ≥ least) && decide (d ≤ 1152921504606846976)
theorem long_walk (w : World) (d least : Int) : Calls Tryz.prog 56 #[.int .i64 d, .int .i64 least] w fun r w' => r = .returned (.bool (longP d least)) ∧ w = w' := by
 unfold longP
 by_cases h1 : d ≥ least
 ·have e1 : decide (d ≥ least) = true := by simpa using h1
  rw [e1, Bool.true_and]
  generalize hb : decide (d ≤ 1152921504606846976) = b at *
  clear h1
  go_enter Tryz.func56, Tryz.ntmps56
  go_wp2_with fail
  all_goals go_ret
  all_goals exact ⟨rfl, rfl⟩
 ·have e1 : decide (d ≥ least) = false := by simpa using h1
  rw [e1, Bool.false_and]
  clear h1
  go_enter Tryz.func56, Tryz.ntmps56
  go_wp2_with fail
  all_goals go_ret
  all_goals exact ⟨rfl, rfl⟩
def inP (n v : Int) : Bool := decide (v ≥ 0) && decide (v < n)
theorem key1_walk (w : World) (v : Int) : Calls Tryz.prog 51 #[.int .i64 v] w fun r w' => r = .returned (.int .i64 v) ∧ w = w' := by
 go_enter Tryz.func51, Tryz.ntmps51
 go_wp2_with fail
 all_goals go_ret
 all_goals exact ⟨rfl, rfl⟩
theorem key2_walk (w : World) (v d : Int) : Calls Tryz.prog 52 #[.agg #[.int .i64 v, .int .i64 d]] w fun r w' => r = .returned (.int .i64 v) ∧ Below w.heap.size w w' := by
 have HB : Hid (Below w.heap.size w (w.alloc (.cells #[.int .i64 v, .int .i64 d] 37))) := Lib.hid ((Below.refl _ _).alloc (Nat.le_refl _) _)
 go_enter Tryz.func52, Tryz.ntmps52
 go_wp2_with fail
 all_goals go_ret
 all_goals exact ⟨rfl, HB.out⟩
theorem in_walk (w : World) (nb : Nat) (n v : Int) (hc : w.cell? ⟨nb, 0, none⟩ = some (.int .i64 n)) : Calls Tryz.prog 53 #[.int .i64 v, .pointer (some ⟨nb, 0, none⟩)] w fun r w' => r = .returned (.bool (inP n v)) ∧ w = w' := by
 have hl := World.block_lt_of_cell? w _ hc
 simp only at hl
 unfold inP
 by_cases h1 : v ≥ 0
 ·have e1 : decide (v ≥ 0) = true := by simpa using h1
  rw [e1, Bool.true_and]
  generalize hb : decide (v < n) = b at *
  clear h1
  go_enter Tryz.func53, Tryz.ntmps53
  go_wp2_with fail
  all_goals go_ret
  all_goals exact ⟨rfl, rfl⟩
 ·have e1 : decide (v ≥ 0) = false := by simpa using h1
  rw [e1, Bool.false_and]
  clear h1
  go_enter Tryz.func53, Tryz.ntmps53
  go_wp2_with fail
  all_goals go_ret
  all_goals exact ⟨rfl, rfl⟩
def greatQ (g : List Int) (x : S37) : Bool := decide (idxP g x.f0 ≥ 0) && longP x.f1 0
theorem greatQ_walk (w : World) (tb : Nat) (A : Option Addr) (c : Nat) (g : List Int) (v d : Int) (hb : w.cell? ⟨tb, 0, none⟩ = some (.slice A g.length c)) (hC : Kd.C (Kd.int .i64) w A g.length g) (hc : g.length ≤ c) (hs : g.Pairwise (fun a b => a < b)) (hl : g.length ≤ 1000000) :
  Calls Tryz.prog 54 #[.agg #[.int .i64 v, .int .i64 d], .pointer (some ⟨tb, 0, none⟩)] w fun r w' => r = .returned (.bool (greatQ g ⟨v, d⟩)) ∧ Below w.heap.size w w' := by
 have hlt := World.block_lt_of_cell? w _ hb
 simp only at hlt
 have HB : Hid (Below w.heap.size w (w.alloc (.cells #[.int .i64 v, .int .i64 d] 37))) := Lib.hid ((Below.refl _ _).alloc (Nat.le_refl _) _)
 have HP := Lib.hid (place_walk (w.alloc (.cells #[.int .i64 v, .int .i64 d] 37)) A c g v (Kd.C_alloc hC _) hc hs hl)
 have HL := Lib.hid (fun W => long_walk W d 0)
 unfold greatQ
 simp only
 clear hC hc hs hl
 generalize longP d 0 = lo at *
 generalize idxP g v = p at *
 generalize g.length = m at *
 by_cases h1 : p ≥ 0
 ·have e1 : decide (p ≥ 0) = true := by simpa using h1
  rw [e1, Bool.true_and]
  clear h1
  go_enter Tryz.func54, Tryz.ntmps54
  go_wp2_with (first | (go_at_call 55; refine HP.out.mono ?_; rintro e w1 ⟨rfl, j, rfl⟩) | (go_at_call 56; refine (HL.out _).mono ?_; rintro e w2 ⟨rfl, rfl⟩))
  all_goals go_ret
  all_goals exact ⟨rfl, pw_below_drewN HB.out _⟩
 ·have e1 : decide (p ≥ 0) = false := by simpa using h1
  rw [e1, Bool.false_and]
  clear h1
  go_enter Tryz.func54, Tryz.ntmps54
  go_wp2_with (first | (go_at_call 55; refine HP.out.mono ?_; rintro e w1 ⟨rfl, j, rfl⟩) | (go_at_call 56; refine (HL.out _).mono ?_; rintro e w2 ⟨rfl, rfl⟩))
  all_goals go_ret
  all_goals exact ⟨rfl, pw_below_drewN HB.out _⟩
def lowQ (g : List Int) (n : Int) (v : Int) : Bool := inP n v && decide (idxP g v < 0)
theorem lowQ_walk (w : World) (ib nb tb : Nat) (A : Option Addr) (c : Nat) (g : List Int) (n v : Int) (hi : w.cell? ⟨ib, 0, none⟩ = some (.func (.func 53) #[] #[.pointer (some ⟨nb, 0, none⟩)])) (hn : w.cell? ⟨nb, 0, none⟩ = some (.int .i64 n)) (hb : w.cell? ⟨tb, 0, none⟩ = some (.slice A g.length c)) (hC : Kd.C (Kd.int .i64) w A g.length g) (hc : g.length ≤ c) (hs : g.Pairwise (fun a b => a < b)) (hl : g.length ≤ 1000000) :
  Calls Tryz.prog 57 #[.int .i64 v, .pointer (some ⟨ib, 0, none⟩), .pointer (some ⟨tb, 0, none⟩)] w fun r w' => r = .returned (.bool (lowQ g n v)) ∧ ∃ j, w' = w.drewN j := by
 have hlt := World.block_lt_of_cell? w _ hb
 have hlti := World.block_lt_of_cell? w _ hi
 simp only at hlt hlti
 have HP := Lib.hid (place_walk w A c g v hC hc hs hl)
 have HI := Lib.hid (in_walk w nb n v hn)
 have HW : Hid (∃ j, w = w.drewN j) := Lib.hid ⟨0, rfl⟩
 unfold lowQ
 clear hC hc hs hl
 generalize idxP g v = p at *
 generalize g.length = m at *
 cases hin : inP n v with
 | true =>
  rw [hin] at HI
  rw [Bool.true_and]
  generalize hb2 : decide (p < 0) = b at *
  clear hin
  go_enter Tryz.func57, Tryz.ntmps57
  go_wp2_with (first | (go_at_call 53; refine HI.out.mono ?_; rintro e w1 ⟨rfl, rfl⟩) | (go_at_call 55; refine HP.out.mono ?_; rintro e w1 ⟨rfl, j, rfl⟩))
  all_goals go_ret
  all_goals exact ⟨rfl, _, rfl⟩
 | false =>
  rw [hin] at HI
  rw [Bool.false_and]
  clear hin
  go_enter Tryz.func57, Tryz.ntmps57
  go_wp2_with (first | (go_at_call 53; refine HI.out.mono ?_; rintro e w1 ⟨rfl, rfl⟩) | (go_at_call 55; refine HP.out.mono ?_; rintro e w1 ⟨rfl, j, rfl⟩))
  all_goals go_ret
  all_goals exact ⟨rfl, HW.out⟩
theorem goesF_ {P : Program} {ops : Array Oper} {Q : Exit → Act → World → Prop} {oi : Oper} {N : Option Tmp} {a : Act} {w : World} {K : Act → World → Prop} {f : FuncId} {fn : Func} {c : Operand} {az : Array Operand} {ts : Array TypeId} (hf : P.funcs[f]? = some fn) (hname : (fn.name == "runtime.NumGoroutine") = false) (hb : fn.body.isSome = true) (cap args : Array Value)
  (hw : Region.wanted oi (yielded ops a.tmps) = true) (hN : oi.dst = N) (hop : oi.op = .call { callee := .value c, args := az, argTypes := ts }) (hc : a.eval c = .func (.func f) #[] cap) (hargs : az.map a.eval ++ cap = args)
  (h : Calls P f args w fun e w' => ∃ v, e = .returned v ∧ K (a.put N v) w') : if Region.wanted oi (yielded ops a.tmps) = true then Oper.wp P oi a w K Q else K (a.put N undef) w := by
 refine call_ f args hw hN ?_ h
 have he := enters_ hf hname hb args w
 unfold execOp
 simp [hop, resolve, Deferred.ofValue, invoke, hc, hargs, he]
def stepTI (may : Int → Bool) (r : List Int) (q : Nat) : Bool := may (rd r (q : Int)) && (decide (q = 0) || decide (rd r ((q : Int) - 1) < rd r (q : Int)))
def okToI (may : Int → Bool) (r : List Int) (j : Nat) : Bool := (List.range j).all (stepTI may r)
def risingI (may : Int → Bool) (rows : List (List Int)) (n : Int) : Bool := decide ((rows.length : Int) = n) && rows.all (fun r => okToI may r r.length)
theorem okToI_succ (may : Int → Bool) (r : List Int) (j : Nat) : okToI may r (j + 1) = (okToI may r j && stepTI may r j) := by simp [okToI, List.range_succ]
theorem okToI_no {may : Int → Bool} {r : List Int} {j : Nat} (hj : j < r.length) (h : stepTI may r j = false) : okToI may r r.length = false := by
 unfold okToI
 rw [List.all_eq_false]
 exact ⟨j, List.mem_range.2 hj, by simp [h]⟩
theorem risingI_no {may : Int → Bool} {rows : List (List Int)} {n : Int} {r : List Int} (hr : r ∈ rows) (h : okToI may r r.length = false) : risingI may rows n = false := by
 have : rows.all (fun r => okToI may r r.length) = false := by
  rw [List.all_eq_false]
  exact ⟨r, hr, by simp [h]⟩
 unfold risingI
 rw [this, Bool.and_false]
theorem all_takeI (f : List Int → Bool) (rows : List (List Int)) (i : Nat) (hi : i < rows.length) : (rows.take (i + 1)).all f = ((rows.take i).all f && f rows[i]) := by
 rw [List.take_succ_eq_append_getElem hi, List.all_append]
 simp
set_option maxRecDepth 100000 in
set_option maxHeartbeats 8000000 in
theorem risingI_walk (w : World) (F : Nat) (fn : Func) (cap : Array Value) (may : Int → Bool) (hF : Tryz.prog.funcs[F]? = some fn) (hN : (fn.name == "runtime.NumGoroutine") = false) (hB : fn.body.isSome = true) (A : Option Addr) (c : Nat) (rows : List (List Int)) (n : Int)
  (hR : Kd.C kII w A rows.length rows) (hl : rows.length ≤ 1000000) (hls : ∀ r ∈ rows, r.length ≤ 1000000)
  (hM : ∀ W, Below w.heap.size w W → ∀ v : Int, Calls Tryz.prog F (#[.int .i64 v] ++ cap) W fun r w' => r = .returned (.bool (may v)) ∧ Below W.heap.size W w') :
  Calls Tryz.prog 58 #[.slice A rows.length c, .int .i64 n, .func (.func 51) #[] #[], .func (.func F) #[] cap] w fun r w' => r = .returned (.bool (risingI may rows n)) ∧ Below w.heap.size w w' := by
 have HFN := Lib.hid (And.intro hF (And.intro hN hB))
 have HMA := Lib.hid hM
 have HRC : Hid (∀ W, Below w.heap.size w W → Kd.C kII W A rows.length rows) := Lib.hid (fun W g => Kd.C_below hR g)
 have HLS := Lib.hid hls
 obtain ⟨len, hlen⟩ : ∃ len, rows.length = len := ⟨_, rfl⟩
 have HLEN := Lib.hid hlen
 have HB0 := Lib.hid (Below.refl w.heap.size w)
 rw [hlen] at HRC hl ⊢
 clear hF hN hB hM hR hls
 by_cases hn : (len : Int) = n
 ·subst hn
  have HRI : Hid (risingI may rows (len : Int) = rows.all (fun r => okToI may r r.length)) := Lib.hid (by unfold risingI; rw [hlen]; simp)
  have HNO : Hid (∀ r ∈ rows, ∀ j, j < r.length → stepTI may r j = false → risingI may rows (len : Int) = false) := Lib.hid (fun r hr j hj h => risingI_no hr (okToI_no hj h))
  generalize risingI may rows (len : Int) = RES at *
  have t0 : ((len : Int) != (len : Int)) = false := by simp
  clear hlen
  go_enter Tryz.func58, Tryz.ntmps58
  go_wp2_with fail
  go_loopw [19] (fun v19 wr => ∃ i : Nat, v19 = .int .i64 i ∧ i ≤ len ∧ Hid ((rows.take i).all (fun r => okToI may r r.length) = true) ∧ Hid (Below w.heap.size w wr)) (fun v19 _ => len - (intOf v19).toNat)
  case atStart => exact ⟨0, rfl, by omega, Lib.hid rfl, HB0⟩
  case round =>
   obtain ⟨i, rfl, hi, HOK, HB⟩ := hrel
   clear HB0
   by_cases hlt : i < len
   ·have hi0 : (0 : Int) ≤ (i : Int) := Int.natCast_nonneg _
    have hi1 : (i : Int) < (len : Int) := by omega
    have hil : i < rows.length := by rw [HLEN.out]; exact hlt
    obtain ⟨ad, Ar, cr, hA, hcell, hcr, hCr⟩ := at_L5 (HRC.out wr HB.out) (i : Int) (by omega) (by omega)
    simp only [Int.toNat_natCast] at hcell
    subst hA
    have hre : rd_L5 rows (i : Int) = rows[i] := by simp [rd_L5, List.getD, hil]
    have hrm : rd_L5 rows (i : Int) ∈ rows := by rw [hre]; exact List.getElem_mem _
    have HTK : Hid ((rows.take (i + 1)).all (fun r => okToI may r r.length) = ((rows.take i).all (fun r => okToI may r r.length) && okToI may (rd_L5 rows (i : Int)) (rd_L5 rows (i : Int)).length)) := Lib.hid (by rw [all_takeI _ _ _ hil, hre])
    have HNR := Lib.hid (HNO.out _ hrm)
    have hml := HLS.out _ hrm
    have HCR := Lib.hid hCr
    clear hre hrm hil hCr
    generalize rd_L5 rows (i : Int) = r at *
    obtain ⟨m, hm⟩ : ∃ m, r.length = m := ⟨_, rfl⟩
    have HM := Lib.hid hm
    rw [hm] at HCR HNR HTK hml hcell hcr
    clear hm
    have HRW : Hid (∀ W, Below wr.heap.size wr W → Kd.C (Kd.int .i64) W Ar m r) := Lib.hid (fun W g => Kd.C_below HCR.out g)
    have HBW := Lib.hid (fun W (g : Below wr.heap.size wr W) => HB.out.trans (g.mono HB.out.size))
    clear HCR
    generalize wr = wo at *
    go_wp2_with fail
    go_loopw [25] (fun v25 wx => ∃ j : Nat, v25 = .int .i64 j ∧ j ≤ m ∧ Hid (okToI may r j = true) ∧ Hid (Below wo.heap.size wo wx)) (fun v25 _ => m - (intOf v25).toNat)
    case atStart => exact ⟨0, rfl, by omega, Lib.hid rfl, Lib.hid (Below.refl _ _)⟩
    case round =>
     obtain ⟨j, rfl, hj, HOJ, HBJ⟩ := hrel
     by_cases hjt : j < m
     ·have hj0 : (0 : Int) ≤ (j : Int) := Int.natCast_nonneg _
      have hj1 : (j : Int) < (m : Int) := by omega
      have HSU : Hid (okToI may r (j + 1) = stepTI may r j) := Lib.hid (by rw [okToI_succ, HOJ.out, Bool.true_and])
      have HN1 := Lib.hid (HNR.out j hjt)
      have HST : Hid (stepTI may r j = (may (rd r (j : Int)) && (decide (j = 0) || decide (rd r ((j : Int) - 1) < rd r (j : Int))))) := Lib.hid rfl
      obtain ⟨ar, hAr, x0⟩ := Kd.at_int (HRW.out wr HBJ.out) (j : Int) (by omega) (by omega)
      have x0' : wr.cell? (ar.add j) = some (.int .i64 (rd r (j : Int))) := x0
      subst hAr
      clear x0
      have HMX := Lib.hid (fun W (g : Below wo.heap.size wo W) => HMA.out W (HBW.out W g) (rd r (j : Int)))
      have HGD : Hid (Below wo.heap.size wo wr.drew) := Lib.hid HBJ.out.drew
      have HRV := Lib.hid (fun W (g : Below wo.heap.size wo W) => HRW.out W g)
      generalize hxv : rd r (j : Int) = xv at *
      clear hxv
      by_cases hmx : may xv = true
      ·by_cases hj00 : j = 0
       ·have HS1 : Hid (okToI may r (j + 1) = true) := Lib.hid (by rw [HSU.out, HST.out, hmx]; simp [hj00])
        have t1 : decide ((j : Int) > 0) = false := decide_eq_false (by omega)
        have t1' : decide (0 < j) = false := decide_eq_false (by omega)
        clear hj00
        rw [hmx] at HMX
        go_upto_region 9 with fail
        refine start_ (n := 21) (S := fun w' => True) (ds := []) (bA_ 21 0) (by kernel_rfl) rfl rfl trivial (fun hHeld => ?_)
        refine p2_ 0 30 (bA_ 21 1) ?_
        refine p2_ 1 31 (bA_ 21 3) ?_
        refine o2_ 2 32 (bA_ 21 7) (fun K hK => ?_)
        refine goesF_ HFN.out.1 HFN.out.2.1 HFN.out.2.2 cap (#[.int .i64 xv] ++ cap) (by rfl) rfl rfl rfl (by simp only [List.map_toArray, List.map_cons, List.map_nil]; rfl) ?_
        with_reducible refine (HMX.out _ HGD.out).mono ?_
        rintro e w3 ⟨rfl, g3⟩
        refine ⟨_, rfl, ?_⟩
        have HGE := Lib.hid (HGD.out.trans (g3.mono HGD.out.size))
        clear g3
        refine hK.out _ _ trivial (fun hHeld => ?_)
        clear hK K
        refine n2_ 32 ?_
        refine p2_ 3 33 (bA_ 21 15) ?_
        refine p2_ 4 34 (bA_ 21 31) ?_
        refine p2_ 5 35 (bA_ 21 63) ?_
        refine p2_ 6 36 (bA_ 21 127) ?_
        refine p2_ 7 37 (bA_ 21 255) ?_
        refine pu2_ 8 38 (bA_ 21 511) ?_
        refine pu2_ 9 39 (bA_ 21 1023) ?_
        refine pu2_ 10 40 (bA_ 21 2047) ?_
        refine pu2_ 11 41 (bA_ 21 4095) ?_
        refine pu2_ 12 42 (bA_ 21 8191) ?_
        refine pu2_ 13 43 (bA_ 21 16383) ?_
        refine pu2_ 14 44 (bA_ 21 32767) ?_
        refine pu2_ 15 45 (bA_ 21 65535) ?_
        refine pu2_ 16 46 (bA_ 21 131071) ?_
        refine pu2_ 17 47 (bA_ 21 262143) ?_
        refine pu2_ 18 48 (bA_ 21 524287) ?_
        refine p2_ 19 49 (bA_ 21 1048575) ?_
        refine p2_ 20 50 (bA_ 21 2097151) ?_
        refine done_ (by kernel_rfl) ?_
        go_wp2_with fail
        go_roundw
        case measure => simp [intOf]; omega
        case rel => exact ⟨j + 1, by go_num, by omega, HS1, HGE⟩
       ·obtain ⟨p, hpj⟩ : ∃ p, j = p + 1 := ⟨j - 1, by omega⟩
        have hw1 : IntKind.i64.wrap ((j : Int) - 1) = (p : Int) := i64w (by omega) (by omega) (by omega)
        have t1 : decide ((j : Int) > 0) = true := decide_eq_true (by omega)
        have t1' : decide (0 < j) = true := decide_eq_true (by omega)
        have hp0 : (0 : Int) ≤ (p : Int) := Int.natCast_nonneg _
        have hp1 : (p : Int) < (m : Int) := by omega
        have hpk : (j : Int) - 1 = (p : Int) := by omega
        rw [hpk] at HST
        clear hpk
        obtain ⟨ar2, hAr2, y0⟩ := Kd.at_int (HRV.out wr HBJ.out) (p : Int) (by omega) (by omega)
        cases hAr2
        have HPC : Hid (∀ W, Below wo.heap.size wo W → W.cell? (ar.add p) = some (.int .i64 (rd r (p : Int)))) := Lib.hid (fun W g => by
         obtain ⟨ar3, hAr3, y1⟩ := Kd.at_int (HRV.out W g) (p : Int) (by omega) (by omega)
         cases hAr3
         exact y1)
        clear y0
        generalize rd r (p : Int) = yv at *
        by_cases hlt2 : yv < xv
        ·have HS1 : Hid (okToI may r (j + 1) = true) := Lib.hid (by rw [HSU.out, HST.out, hmx]; simp [hlt2])
         have t2 : decide (xv ≤ yv) = false := decide_eq_false (by omega)
         rw [hmx] at HMX
         clear hlt2 hj00 hpj
         go_upto_region 9 with fail
         refine start_ (n := 21) (S := fun w' => w'.cell? (ar.add p) = some (.int .i64 yv)) (ds := []) (bA_ 21 0) (by kernel_rfl) rfl rfl ((HPC.out _ HGD.out)) (fun hHeld => ?_)
         refine p2_ 0 30 (bA_ 21 1) ?_
         refine p2_ 1 31 (bA_ 21 3) ?_
         refine o2_ 2 32 (bA_ 21 7) (fun K hK => ?_)
         refine goesF_ HFN.out.1 HFN.out.2.1 HFN.out.2.2 cap (#[.int .i64 xv] ++ cap) (by rfl) rfl rfl rfl (by simp only [List.map_toArray, List.map_cons, List.map_nil]; rfl) ?_
         with_reducible refine (HMX.out _ HGD.out).mono ?_
         rintro e w3 ⟨rfl, g3⟩
         refine ⟨_, rfl, ?_⟩
         have HGE := Lib.hid (HGD.out.trans (g3.mono HGD.out.size))
         clear g3
         refine hK.out _ _ ((HPC.out _ HGE.out)) (fun hHeld => ?_)
         clear hK K
         refine n2_ 32 ?_
         refine p2_ 3 33 (bA_ 21 15) ?_
         refine p2_ 4 34 (bA_ 21 31) ?_
         refine p2_ 5 35 (bA_ 21 63) ?_
         refine p2_ 6 36 (bA_ 21 127) ?_
         refine p2_ 7 37 (bA_ 21 255) ?_
         refine p2_ 8 38 (bA_ 21 511) ?_
         refine p2_ 9 39 (bA_ 21 1023) ?_
         refine p2_ 11 41 (bA_ 21 3071) ?_
         refine p2_ 12 42 (bA_ 21 7167) ?_
         refine p2_ 13 43 (bA_ 21 15359) ?_
         refine p2_ 14 44 (bA_ 21 31743) ?_
         refine p2_ 15 45 (bA_ 21 64511) ?_
         refine t2_ 16 46 (bA_ 21 130047) hHeld ?_ (hy := by intro w' s0; go_simp; with_reducible rfl)
         refine o2_ 10 40 (bA_ 21 131071) (fun K hK => ?_)
         refine goesF_ Tryz.func51 (by kernel_rfl) rfl #[] #[.int .i64 xv] (by rfl) rfl rfl rfl (by simp only [List.map_toArray, List.map_cons, List.map_nil]; rfl) ?_
         with_reducible refine (key1_walk _ xv).mono ?_
         rintro e w4 ⟨rfl, rfl⟩
         refine ⟨_, rfl, ?_⟩
         have HGF := HGE
         refine hK.out _ _ ((HPC.out _ HGF.out)) (fun hHeld => ?_)
         clear hK K
         refine n2_ 40 ?_
         refine o2_ 17 47 (bA_ 21 262143) (fun K hK => ?_)
         refine goesF_ Tryz.func51 (by kernel_rfl) rfl #[] #[.int .i64 yv] (by rfl) rfl rfl rfl (by simp only [List.map_toArray, List.map_cons, List.map_nil]; rfl) ?_
         with_reducible refine (key1_walk _ yv).mono ?_
         rintro e w5 ⟨rfl, rfl⟩
         refine ⟨_, rfl, ?_⟩
         have HGG := HGF
         refine hK.out _ _ ((HPC.out _ HGG.out)) (fun hHeld => ?_)
         clear hK K
         refine n2_ 47 ?_
         refine p2_ 18 48 (bA_ 21 524287) ?_
         refine p2_ 19 49 (bA_ 21 1048575) ?_
         refine p2_ 20 50 (bA_ 21 2097151) ?_
         refine done_ (by kernel_rfl) ?_
         go_wp2_with fail
         go_roundw
         case measure => simp [intOf]; omega
         case rel => exact ⟨j + 1, by go_num, by omega, HS1, HGG⟩
        ·have HS1 : Hid (RES = false) := Lib.hid (HN1.out (by rw [HST.out, hmx]; simp [hlt2, hj00]))
         have t2 : decide (xv ≤ yv) = true := decide_eq_true (by omega)
         rw [hmx] at HMX
         clear hlt2 hj00 hpj
         go_upto_region 9 with fail
         refine start_ (n := 21) (S := fun w' => w'.cell? (ar.add p) = some (.int .i64 yv)) (ds := []) (bA_ 21 0) (by kernel_rfl) rfl rfl ((HPC.out _ HGD.out)) (fun hHeld => ?_)
         refine p2_ 0 30 (bA_ 21 1) ?_
         refine p2_ 1 31 (bA_ 21 3) ?_
         refine o2_ 2 32 (bA_ 21 7) (fun K hK => ?_)
         refine goesF_ HFN.out.1 HFN.out.2.1 HFN.out.2.2 cap (#[.int .i64 xv] ++ cap) (by rfl) rfl rfl rfl (by simp only [List.map_toArray, List.map_cons, List.map_nil]; rfl) ?_
         with_reducible refine (HMX.out _ HGD.out).mono ?_
         rintro e w3 ⟨rfl, g3⟩
         refine ⟨_, rfl, ?_⟩
         have HGE := Lib.hid (HGD.out.trans (g3.mono HGD.out.size))
         clear g3
         refine hK.out _ _ ((HPC.out _ HGE.out)) (fun hHeld => ?_)
         clear hK K
         refine n2_ 32 ?_
         refine p2_ 3 33 (bA_ 21 15) ?_
         refine p2_ 4 34 (bA_ 21 31) ?_
         refine p2_ 5 35 (bA_ 21 63) ?_
         refine p2_ 6 36 (bA_ 21 127) ?_
         refine p2_ 7 37 (bA_ 21 255) ?_
         refine p2_ 8 38 (bA_ 21 511) ?_
         refine p2_ 9 39 (bA_ 21 1023) ?_
         refine p2_ 11 41 (bA_ 21 3071) ?_
         refine p2_ 12 42 (bA_ 21 7167) ?_
         refine p2_ 13 43 (bA_ 21 15359) ?_
         refine p2_ 14 44 (bA_ 21 31743) ?_
         refine p2_ 15 45 (bA_ 21 64511) ?_
         refine t2_ 16 46 (bA_ 21 130047) hHeld ?_ (hy := by intro w' s0; go_simp; with_reducible rfl)
         refine o2_ 10 40 (bA_ 21 131071) (fun K hK => ?_)
         refine goesF_ Tryz.func51 (by kernel_rfl) rfl #[] #[.int .i64 xv] (by rfl) rfl rfl rfl (by simp only [List.map_toArray, List.map_cons, List.map_nil]; rfl) ?_
         with_reducible refine (key1_walk _ xv).mono ?_
         rintro e w4 ⟨rfl, rfl⟩
         refine ⟨_, rfl, ?_⟩
         have HGF := HGE
         refine hK.out _ _ ((HPC.out _ HGF.out)) (fun hHeld => ?_)
         clear hK K
         refine n2_ 40 ?_
         refine o2_ 17 47 (bA_ 21 262143) (fun K hK => ?_)
         refine goesF_ Tryz.func51 (by kernel_rfl) rfl #[] #[.int .i64 yv] (by rfl) rfl rfl rfl (by simp only [List.map_toArray, List.map_cons, List.map_nil]; rfl) ?_
         with_reducible refine (key1_walk _ yv).mono ?_
         rintro e w5 ⟨rfl, rfl⟩
         refine ⟨_, rfl, ?_⟩
         have HGG := HGF
         refine hK.out _ _ ((HPC.out _ HGG.out)) (fun hHeld => ?_)
         clear hK K
         refine n2_ 47 ?_
         refine p2_ 18 48 (bA_ 21 524287) ?_
         refine p2_ 19 49 (bA_ 21 1048575) ?_
         refine p2_ 20 50 (bA_ 21 2097151) ?_
         refine done_ (by kernel_rfl) ?_
         go_wp2_with fail
         all_goals (try rw [Exit.noGoto_ret])
         all_goals go_ret
         all_goals exact ⟨by rw [HS1.out]; rfl, HBW.out _ HGG.out⟩
      ·have hmf : may xv = false := by simpa using hmx
       have HS1 : Hid (RES = false) := Lib.hid (HN1.out (by rw [HST.out, hmf]; rfl))
       rw [hmf] at HMX
       clear hmx
       go_upto_region 9 with fail
       refine start_ (n := 21) (S := fun w' => True) (ds := []) (bA_ 21 0) (by kernel_rfl) rfl rfl trivial (fun hHeld => ?_)
       refine p2_ 0 30 (bA_ 21 1) ?_
       refine p2_ 1 31 (bA_ 21 3) ?_
       refine o2_ 2 32 (bA_ 21 7) (fun K hK => ?_)
       refine goesF_ HFN.out.1 HFN.out.2.1 HFN.out.2.2 cap (#[.int .i64 xv] ++ cap) (by rfl) rfl rfl rfl (by simp only [List.map_toArray, List.map_cons, List.map_nil]; rfl) ?_
       with_reducible refine (HMX.out _ HGD.out).mono ?_
       rintro e w3 ⟨rfl, g3⟩
       refine ⟨_, rfl, ?_⟩
       have HGE := Lib.hid (HGD.out.trans (g3.mono HGD.out.size))
       clear g3
       refine hK.out _ _ trivial (fun hHeld => ?_)
       clear hK K
       refine n2_ 32 ?_
       refine p2_ 3 33 (bA_ 21 15) ?_
       refine p2_ 4 34 (bA_ 21 31) ?_
       refine pu2_ 5 35 (bA_ 21 63) ?_
       refine pu2_ 6 36 (bA_ 21 127) ?_
       refine pu2_ 7 37 (bA_ 21 255) ?_
       refine pu2_ 8 38 (bA_ 21 511) ?_
       refine pu2_ 9 39 (bA_ 21 1023) ?_
       refine pu2_ 10 40 (bA_ 21 2047) ?_
       refine pu2_ 11 41 (bA_ 21 4095) ?_
       refine pu2_ 12 42 (bA_ 21 8191) ?_
       refine pu2_ 13 43 (bA_ 21 16383) ?_
       refine pu2_ 14 44 (bA_ 21 32767) ?_
       refine pu2_ 15 45 (bA_ 21 65535) ?_
       refine pu2_ 16 46 (bA_ 21 131071) ?_
       refine pu2_ 17 47 (bA_ 21 262143) ?_
       refine pu2_ 18 48 (bA_ 21 524287) ?_
       refine pu2_ 19 49 (bA_ 21 1048575) ?_
       refine p2_ 20 50 (bA_ 21 2097151) ?_
       refine done_ (by kernel_rfl) ?_
       go_wp2_with fail
       all_goals (try rw [Exit.noGoto_ret])
       all_goals go_ret
       all_goals exact ⟨by rw [HS1.out]; rfl, HBW.out _ HGE.out⟩
     ·have HDN : Hid ((rows.take (i + 1)).all (fun r => okToI may r r.length) = true) := Lib.hid (by
       have e : j = m := by omega
       rw [HTK.out, HOK.out, ← e, HOJ.out]; rfl)
      have hjm : m ≤ j := by omega
      have HBO := Lib.hid (HBW.out _ HBJ.out)
      go_wp2_with fail
      go_roundw
      case measure => simp [intOf]; omega
      case rel => exact ⟨i + 1, by go_num, by omega, HDN, HBO⟩
   ·have HT : Hid (RES = true) := Lib.hid (by
     have := HOK.out
     rw [List.take_of_length_le (by rw [HLEN.out]; omega)] at this
     rw [HRI.out, this])
    have hil : len ≤ i := by omega
    go_wp2_with fail
    all_goals (try rw [Exit.noGoto_ret])
    all_goals go_ret
    all_goals exact ⟨by rw [HT.out]; rfl, HB.out⟩
 ·have HRI : Hid (risingI may rows n = false) := Lib.hid (by unfold risingI; rw [hlen]; simp [hn])
  have t0 : ((len : Int) != n) = true := by simp [hn]
  generalize risingI may rows n = RES at *
  clear hlen hn
  go_enter Tryz.func58, Tryz.ntmps58
  go_wp2_with fail
  all_goals (try rw [Exit.noGoto_ret])
  all_goals go_ret
  all_goals exact ⟨by rw [HRI.out]; rfl, HB0.out⟩
def stepTR (may : S37 → Bool) (r : List S37) (q : Nat) : Bool := may (rd_T37 r (q : Int)) && (decide (q = 0) || decide ((rd_T37 r ((q : Int) - 1)).f0 < (rd_T37 r (q : Int)).f0))
def okToR (may : S37 → Bool) (r : List S37) (j : Nat) : Bool := (List.range j).all (stepTR may r)
def risingR (may : S37 → Bool) (rows : List (List S37)) (n : Int) : Bool := decide ((rows.length : Int) = n) && rows.all (fun r => okToR may r r.length)
theorem okToR_succ (may : S37 → Bool) (r : List S37) (j : Nat) : okToR may r (j + 1) = (okToR may r j && stepTR may r j) := by simp [okToR, List.range_succ]
theorem okToR_no {may : S37 → Bool} {r : List S37} {j : Nat} (hj : j < r.length) (h : stepTR may r j = false) : okToR may r r.length = false := by
 unfold okToR
 rw [List.all_eq_false]
 exact ⟨j, List.mem_range.2 hj, by simp [h]⟩
theorem risingR_no {may : S37 → Bool} {rows : List (List S37)} {n : Int} {r : List S37} (hr : r ∈ rows) (h : okToR may r r.length = false) : risingR may rows n = false := by
 have : rows.all (fun r => okToR may r r.length) = false := by
  rw [List.all_eq_false]
  exact ⟨r, hr, by simp [h]⟩
 unfold risingR
 rw [this, Bool.and_false]
theorem all_takeR (f : List S37 → Bool) (rows : List (List S37)) (i : Nat) (hi : i < rows.length) : (rows.take (i + 1)).all f = ((rows.take i).all f && f rows[i]) := by
 rw [List.take_succ_eq_append_getElem hi, List.all_append]
 simp
set_option maxRecDepth 100000 in
set_option maxHeartbeats 8000000 in
theorem risingR_walk (w : World) (F : Nat) (fn : Func) (cap : Array Value) (may : S37 → Bool) (hF : Tryz.prog.funcs[F]? = some fn) (hN : (fn.name == "runtime.NumGoroutine") = false) (hB : fn.body.isSome = true) (A : Option Addr) (c : Nat) (rows : List (List S37)) (n : Int)
  (hR : Kd.C kRR w A rows.length rows) (hl : rows.length ≤ 1000000) (hls : ∀ r ∈ rows, r.length ≤ 1000000)
  (hM : ∀ W, Below w.heap.size w W → ∀ v : S37, Calls Tryz.prog F (#[.agg #[.int .i64 v.f0, .int .i64 v.f1]] ++ cap) W fun r w' => r = .returned (.bool (may v)) ∧ Below W.heap.size W w') :
  Calls Tryz.prog 60 #[.slice A rows.length c, .int .i64 n, .func (.func 52) #[] #[], .func (.func F) #[] cap] w fun r w' => r = .returned (.bool (risingR may rows n)) ∧ Below w.heap.size w w' := by
 have HFN := Lib.hid (And.intro hF (And.intro hN hB))
 have HMA := Lib.hid hM
 have HRC : Hid (∀ W, Below w.heap.size w W → Kd.C kRR W A rows.length rows) := Lib.hid (fun W g => Kd.C_below hR g)
 have HLS := Lib.hid hls
 obtain ⟨len, hlen⟩ : ∃ len, rows.length = len := ⟨_, rfl⟩
 have HLEN := Lib.hid hlen
 have HB0 := Lib.hid (Below.refl w.heap.size w)
 rw [hlen] at HRC hl ⊢
 clear hF hN hB hM hR hls
 by_cases hn : (len : Int) = n
 ·subst hn
  have HRI : Hid (risingR may rows (len : Int) = rows.all (fun r => okToR may r r.length)) := Lib.hid (by unfold risingR; rw [hlen]; simp)
  have HNO : Hid (∀ r ∈ rows, ∀ j, j < r.length → stepTR may r j = false → risingR may rows (len : Int) = false) := Lib.hid (fun r hr j hj h => risingR_no hr (okToR_no hj h))
  generalize risingR may rows (len : Int) = RES at *
  have t0 : ((len : Int) != (len : Int)) = false := by simp
  clear hlen
  go_enter Tryz.func60, Tryz.ntmps60
  go_wp2_with fail
  go_loopw [19] (fun v19 wr => ∃ i : Nat, v19 = .int .i64 i ∧ i ≤ len ∧ Hid ((rows.take i).all (fun r => okToR may r r.length) = true) ∧ Hid (Below w.heap.size w wr)) (fun v19 _ => len - (intOf v19).toNat)
  case atStart => exact ⟨0, rfl, by omega, Lib.hid rfl, HB0⟩
  case round =>
   obtain ⟨i, rfl, hi, HOK, HB⟩ := hrel
   clear HB0
   by_cases hlt : i < len
   ·have hi0 : (0 : Int) ≤ (i : Int) := Int.natCast_nonneg _
    have hi1 : (i : Int) < (len : Int) := by omega
    have hil : i < rows.length := by rw [HLEN.out]; exact hlt
    obtain ⟨ad, Ar, cr, hA, hcell, hcr, hCr⟩ := at_L7 (HRC.out wr HB.out) (i : Int) (by omega) (by omega)
    simp only [Int.toNat_natCast] at hcell
    subst hA
    have hre : rd_L7 rows (i : Int) = rows[i] := by simp [rd_L7, List.getD, hil]
    have hrm : rd_L7 rows (i : Int) ∈ rows := by rw [hre]; exact List.getElem_mem _
    have HTK : Hid ((rows.take (i + 1)).all (fun r => okToR may r r.length) = ((rows.take i).all (fun r => okToR may r r.length) && okToR may (rd_L7 rows (i : Int)) (rd_L7 rows (i : Int)).length)) := Lib.hid (by rw [all_takeR _ _ _ hil, hre])
    have HNR := Lib.hid (HNO.out _ hrm)
    have hml := HLS.out _ hrm
    have HCR := Lib.hid hCr
    clear hre hrm hil hCr
    generalize rd_L7 rows (i : Int) = r at *
    obtain ⟨m, hm⟩ : ∃ m, r.length = m := ⟨_, rfl⟩
    have HM := Lib.hid hm
    rw [hm] at HCR HNR HTK hml hcell hcr
    clear hm
    have HRW : Hid (∀ W, Below wr.heap.size wr W → Kd.C k37 W Ar m r) := Lib.hid (fun W g => Kd.C_below HCR.out g)
    have HBW := Lib.hid (fun W (g : Below wr.heap.size wr W) => HB.out.trans (g.mono HB.out.size))
    clear HCR
    generalize wr = wo at *
    go_wp2_with fail
    go_loopw [25] (fun v25 wx => ∃ j : Nat, v25 = .int .i64 j ∧ j ≤ m ∧ Hid (okToR may r j = true) ∧ Hid (Below wo.heap.size wo wx)) (fun v25 _ => m - (intOf v25).toNat)
    case atStart => exact ⟨0, rfl, by omega, Lib.hid rfl, Lib.hid (Below.refl _ _)⟩
    case round =>
     obtain ⟨j, rfl, hj, HOJ, HBJ⟩ := hrel
     by_cases hjt : j < m
     ·have hj0 : (0 : Int) ≤ (j : Int) := Int.natCast_nonneg _
      have hj1 : (j : Int) < (m : Int) := by omega
      have HSU : Hid (okToR may r (j + 1) = stepTR may r j) := Lib.hid (by rw [okToR_succ, HOJ.out, Bool.true_and])
      have HN1 := Lib.hid (HNR.out j hjt)
      have HST : Hid (stepTR may r j = (may (rd_T37 r (j : Int)) && (decide (j = 0) || decide ((rd_T37 r ((j : Int) - 1)).f0 < (rd_T37 r (j : Int)).f0)))) := Lib.hid rfl
      obtain ⟨ar, hAr, x0, x1⟩ := at_T37 (HRW.out wr HBJ.out) (j : Int) (by omega) (by omega)
      simp only [Int.toNat_natCast] at x0 x1
      subst hAr
      have HMX := Lib.hid (fun W (g : Below wo.heap.size wo W) => HMA.out W (HBW.out W g) (rd_T37 r (j : Int)))
      have HRV := Lib.hid (fun W (g : Below wo.heap.size wo W) => HRW.out W g)
      generalize hxv : rd_T37 r (j : Int) = xx at *
      obtain ⟨xv, xd⟩ := xx
      simp only at x0 x1 HMX HST
      clear hxv
      have HGB : Hid (Below wo.heap.size wo (wr.alloc (.cells #[.int .i64 xv, .int .i64 xd] 37))) := Lib.hid (HBJ.out.alloc HBJ.out.size _)
      have HGD : Hid (Below wo.heap.size wo (wr.alloc (.cells #[.int .i64 xv, .int .i64 xd] 37)).drew) := Lib.hid HGB.out.drew
      have HXB := Lib.hid (blk_new wr (.cells #[.int .i64 xv, .int .i64 xd] 37))
      have hwo := HBJ.out.size
      by_cases hmx : may ⟨xv, xd⟩ = true
      ·by_cases hj00 : j = 0
       ·have HS1 : Hid (okToR may r (j + 1) = true) := Lib.hid (by rw [HSU.out, HST.out, hmx]; simp [hj00])
        have t1 : decide ((j : Int) > 0) = false := decide_eq_false (by omega)
        have t1' : decide (0 < j) = false := decide_eq_false (by omega)
        clear hj00
        rw [hmx] at HMX
        go_upto_region 9 with fail
        generalize wr.alloc (.cells #[.int .i64 xv, .int .i64 xd] 37) = WX at *
        generalize wr.heap.size = gx at *
        have HXC : Hid (∀ W, Below WX.heap.size WX W → W.cell? ⟨gx, 0, none⟩ = some (.int .i64 xv) ∧ W.cell? ⟨gx, 1, none⟩ = some (.int .i64 xd)) := Lib.hid (fun W g => by
         have hb := (g.block _ (blk_lt HXB.out)).trans HXB.out
         exact ⟨(blk_cell hb 0).trans rfl, (blk_cell hb 1).trans rfl⟩)
        have HMX2 := Lib.hid (fun W (g : Below WX.heap.size WX W) => HMX.out W (HGB.out.trans (g.mono HGB.out.size)))
        clear HMX HGD
        have HMX := HMX2
        clear HMX2
        have HGD : Hid (Below WX.heap.size WX WX.drew) := Lib.hid (Below.refl _ _).drew
        refine start_ (n := 21) (S := fun w' => w'.cell? ⟨gx, 0, none⟩ = some (.int .i64 xv) ∧ w'.cell? ⟨gx, 1, none⟩ = some (.int .i64 xd)) (ds := []) (bA_ 21 0) (by kernel_rfl) rfl rfl ⟨(HXC.out _ HGD.out).1, (HXC.out _ HGD.out).2⟩ (fun hHeld => ?_)
        refine p2_ 0 30 (bA_ 21 1) ?_
        refine t2_ 1 31 (bA_ 21 3) hHeld ?_ (hy := by rintro w' ⟨s0, s1⟩; go_simp; with_reducible rfl)
        refine o2_ 2 32 (bA_ 21 7) (fun K hK => ?_)
        refine goesF_ HFN.out.1 HFN.out.2.1 HFN.out.2.2 cap (#[.agg #[.int .i64 xv, .int .i64 xd]] ++ cap) (by rfl) rfl rfl rfl (by simp only [List.map_toArray, List.map_cons, List.map_nil]; rfl) ?_
        with_reducible refine (HMX.out _ HGD.out).mono ?_
        rintro e w3 ⟨rfl, g3⟩
        refine ⟨_, rfl, ?_⟩
        have HGE := Lib.hid (HGD.out.trans (g3.mono HGD.out.size))
        clear g3
        refine hK.out _ _ ⟨(HXC.out _ HGE.out).1, (HXC.out _ HGE.out).2⟩ (fun hHeld => ?_)
        clear hK K
        refine n2_ 32 ?_
        refine p2_ 3 33 (bA_ 21 15) ?_
        refine p2_ 4 34 (bA_ 21 31) ?_
        refine p2_ 5 35 (bA_ 21 63) ?_
        refine p2_ 6 36 (bA_ 21 127) ?_
        refine p2_ 7 37 (bA_ 21 255) ?_
        refine pu2_ 8 38 (bA_ 21 511) ?_
        refine pu2_ 9 39 (bA_ 21 1023) ?_
        refine pu2_ 10 40 (bA_ 21 2047) ?_
        refine pu2_ 11 41 (bA_ 21 4095) ?_
        refine pu2_ 12 42 (bA_ 21 8191) ?_
        refine pu2_ 13 43 (bA_ 21 16383) ?_
        refine pu2_ 14 44 (bA_ 21 32767) ?_
        refine pu2_ 15 45 (bA_ 21 65535) ?_
        refine pu2_ 16 46 (bA_ 21 131071) ?_
        refine pu2_ 17 47 (bA_ 21 262143) ?_
        refine pu2_ 18 48 (bA_ 21 524287) ?_
        refine p2_ 19 49 (bA_ 21 1048575) ?_
        refine p2_ 20 50 (bA_ 21 2097151) ?_
        refine done_ (by kernel_rfl) ?_
        have HGZ := Lib.hid (HGB.out.trans (HGE.out.mono HGB.out.size))
        go_wp2_with fail
        go_roundw
        case measure => simp [intOf]; omega
        case rel => exact ⟨j + 1, by go_num, by omega, HS1, HGZ⟩
       ·obtain ⟨p, hpj⟩ : ∃ p, j = p + 1 := ⟨j - 1, by omega⟩
        have hw1 : IntKind.i64.wrap ((j : Int) - 1) = (p : Int) := i64w (by omega) (by omega) (by omega)
        have t1 : decide ((j : Int) > 0) = true := decide_eq_true (by omega)
        have t1' : decide (0 < j) = true := decide_eq_true (by omega)
        have hp0 : (0 : Int) ≤ (p : Int) := Int.natCast_nonneg _
        have hp1 : (p : Int) < (m : Int) := by omega
        have hpk : (j : Int) - 1 = (p : Int) := by omega
        rw [hpk] at HST
        clear hpk
        obtain ⟨ar2, hAr2, _, _⟩ := at_T37 (HRV.out wr HBJ.out) (p : Int) (by omega) (by omega)
        cases hAr2
        have HPC : Hid (∀ W, Below wo.heap.size wo W → W.cell? (ar.add (p * 2)) = some (.int .i64 (rd_T37 r (p : Int)).f0) ∧ W.cell? ⟨(ar.add (p * 2)).block, (ar.add (p * 2)).off + 1, none⟩ = some (.int .i64 (rd_T37 r (p : Int)).f1)) := Lib.hid (fun W g => by
         obtain ⟨ar3, hAr3, y0, y1⟩ := at_T37 (HRV.out W g) (p : Int) (by omega) (by omega)
         cases hAr3
         simp only [Int.toNat_natCast] at y0 y1
         exact ⟨y0, y1⟩)
        generalize rd_T37 r (p : Int) = yy at *
        obtain ⟨yv, yd⟩ := yy
        simp only at HPC HST
        by_cases hlt2 : yv < xv
        ·have HS1 : Hid (okToR may r (j + 1) = true) := Lib.hid (by rw [HSU.out, HST.out, hmx]; simp [hlt2])
         have t2 : decide (xv ≤ yv) = false := decide_eq_false (by omega)
         rw [hmx] at HMX
         clear hlt2 hj00 hpj
         go_upto_region 9 with fail
         generalize wr.alloc (.cells #[.int .i64 xv, .int .i64 xd] 37) = WX at *
         generalize wr.heap.size = gx at *
         have HXC : Hid (∀ W, Below WX.heap.size WX W → W.cell? ⟨gx, 0, none⟩ = some (.int .i64 xv) ∧ W.cell? ⟨gx, 1, none⟩ = some (.int .i64 xd)) := Lib.hid (fun W g => by
          have hb := (g.block _ (blk_lt HXB.out)).trans HXB.out
          exact ⟨(blk_cell hb 0).trans rfl, (blk_cell hb 1).trans rfl⟩)
         have HMX2 := Lib.hid (fun W (g : Below WX.heap.size WX W) => HMX.out W (HGB.out.trans (g.mono HGB.out.size)))
         clear HMX HGD
         have HMX := HMX2
         clear HMX2
         have HGD : Hid (Below WX.heap.size WX WX.drew) := Lib.hid (Below.refl _ _).drew
         have HPC2 := Lib.hid (fun W (g : Below WX.heap.size WX W) => HPC.out W (HGB.out.trans (g.mono HGB.out.size)))
         clear HPC
         have HPC := HPC2
         clear HPC2
         refine start_ (n := 21) (S := fun w' => w'.cell? ⟨gx, 0, none⟩ = some (.int .i64 xv) ∧ w'.cell? ⟨gx, 1, none⟩ = some (.int .i64 xd) ∧ w'.cell? (ar.add (p * 2)) = some (.int .i64 yv) ∧ w'.cell? ⟨(ar.add (p * 2)).block, (ar.add (p * 2)).off + 1, none⟩ = some (.int .i64 yd)) (ds := []) (bA_ 21 0) (by kernel_rfl) rfl rfl ⟨(HXC.out _ HGD.out).1, (HXC.out _ HGD.out).2, (HPC.out _ HGD.out).1, (HPC.out _ HGD.out).2⟩ (fun hHeld => ?_)
         refine p2_ 0 30 (bA_ 21 1) ?_
         refine t2_ 1 31 (bA_ 21 3) hHeld ?_ (hy := by rintro w' ⟨s0, s1, s2, s3⟩; go_simp; with_reducible rfl)
         refine o2_ 2 32 (bA_ 21 7) (fun K hK => ?_)
         refine goesF_ HFN.out.1 HFN.out.2.1 HFN.out.2.2 cap (#[.agg #[.int .i64 xv, .int .i64 xd]] ++ cap) (by rfl) rfl rfl rfl (by simp only [List.map_toArray, List.map_cons, List.map_nil]; rfl) ?_
         with_reducible refine (HMX.out _ HGD.out).mono ?_
         rintro e w3 ⟨rfl, g3⟩
         refine ⟨_, rfl, ?_⟩
         have HGE := Lib.hid (HGD.out.trans (g3.mono HGD.out.size))
         clear g3
         refine hK.out _ _ ⟨(HXC.out _ HGE.out).1, (HXC.out _ HGE.out).2, (HPC.out _ HGE.out).1, (HPC.out _ HGE.out).2⟩ (fun hHeld => ?_)
         clear hK K
         refine n2_ 32 ?_
         refine p2_ 3 33 (bA_ 21 15) ?_
         refine p2_ 4 34 (bA_ 21 31) ?_
         refine p2_ 5 35 (bA_ 21 63) ?_
         refine p2_ 6 36 (bA_ 21 127) ?_
         refine p2_ 7 37 (bA_ 21 255) ?_
         refine p2_ 8 38 (bA_ 21 511) ?_
         refine p2_ 11 41 (bA_ 21 2559) ?_
         refine p2_ 12 42 (bA_ 21 6655) ?_
         refine p2_ 13 43 (bA_ 21 14847) ?_
         refine p2_ 14 44 (bA_ 21 31231) ?_
         refine p2_ 15 45 (bA_ 21 63999) ?_
         refine t2_ 9 39 (bA_ 21 64511) hHeld ?_ (hy := by rintro w' ⟨s0, s1, s2, s3⟩; go_simp; with_reducible rfl)
         refine t2_ 16 46 (bA_ 21 130047) hHeld ?_ (hy := by rintro w' ⟨s0, s1, s2, s3⟩; go_simp; with_reducible rfl)
         refine o2_ 10 40 (bA_ 21 131071) (fun K hK => ?_)
         refine goesF_ Tryz.func52 (by kernel_rfl) rfl #[] #[.agg #[.int .i64 xv, .int .i64 xd]] (by rfl) rfl rfl rfl (by simp only [List.map_toArray, List.map_cons, List.map_nil]; rfl) ?_
         with_reducible refine (key2_walk _ xv xd).mono ?_
         rintro e w4 ⟨rfl, g4⟩
         refine ⟨_, rfl, ?_⟩
         have HGF := Lib.hid (HGE.out.trans (g4.mono HGE.out.size))
         clear g4
         refine hK.out _ _ ⟨(HXC.out _ HGF.out).1, (HXC.out _ HGF.out).2, (HPC.out _ HGF.out).1, (HPC.out _ HGF.out).2⟩ (fun hHeld => ?_)
         clear hK K
         refine n2_ 40 ?_
         refine o2_ 17 47 (bA_ 21 262143) (fun K hK => ?_)
         refine goesF_ Tryz.func52 (by kernel_rfl) rfl #[] #[.agg #[.int .i64 yv, .int .i64 yd]] (by rfl) rfl rfl rfl (by simp only [List.map_toArray, List.map_cons, List.map_nil]; rfl) ?_
         with_reducible refine (key2_walk _ yv yd).mono ?_
         rintro e w5 ⟨rfl, g4⟩
         refine ⟨_, rfl, ?_⟩
         have HGG := Lib.hid (HGF.out.trans (g4.mono HGF.out.size))
         clear g4
         refine hK.out _ _ ⟨(HXC.out _ HGG.out).1, (HXC.out _ HGG.out).2, (HPC.out _ HGG.out).1, (HPC.out _ HGG.out).2⟩ (fun hHeld => ?_)
         clear hK K
         refine n2_ 47 ?_
         refine p2_ 18 48 (bA_ 21 524287) ?_
         refine p2_ 19 49 (bA_ 21 1048575) ?_
         refine p2_ 20 50 (bA_ 21 2097151) ?_
         refine done_ (by kernel_rfl) ?_
         have HGZ := Lib.hid (HGB.out.trans (HGG.out.mono HGB.out.size))
         go_wp2_with fail
         go_roundw
         case measure => simp [intOf]; omega
         case rel => exact ⟨j + 1, by go_num, by omega, HS1, HGZ⟩
        ·have HS1 : Hid (RES = false) := Lib.hid (HN1.out (by rw [HST.out, hmx]; simp [hlt2, hj00]))
         have t2 : decide (xv ≤ yv) = true := decide_eq_true (by omega)
         rw [hmx] at HMX
         clear hlt2 hj00 hpj
         go_upto_region 9 with fail
         generalize wr.alloc (.cells #[.int .i64 xv, .int .i64 xd] 37) = WX at *
         generalize wr.heap.size = gx at *
         have HXC : Hid (∀ W, Below WX.heap.size WX W → W.cell? ⟨gx, 0, none⟩ = some (.int .i64 xv) ∧ W.cell? ⟨gx, 1, none⟩ = some (.int .i64 xd)) := Lib.hid (fun W g => by
          have hb := (g.block _ (blk_lt HXB.out)).trans HXB.out
          exact ⟨(blk_cell hb 0).trans rfl, (blk_cell hb 1).trans rfl⟩)
         have HMX2 := Lib.hid (fun W (g : Below WX.heap.size WX W) => HMX.out W (HGB.out.trans (g.mono HGB.out.size)))
         clear HMX HGD
         have HMX := HMX2
         clear HMX2
         have HGD : Hid (Below WX.heap.size WX WX.drew) := Lib.hid (Below.refl _ _).drew
         have HPC2 := Lib.hid (fun W (g : Below WX.heap.size WX W) => HPC.out W (HGB.out.trans (g.mono HGB.out.size)))
         clear HPC
         have HPC := HPC2
         clear HPC2
         refine start_ (n := 21) (S := fun w' => w'.cell? ⟨gx, 0, none⟩ = some (.int .i64 xv) ∧ w'.cell? ⟨gx, 1, none⟩ = some (.int .i64 xd) ∧ w'.cell? (ar.add (p * 2)) = some (.int .i64 yv) ∧ w'.cell? ⟨(ar.add (p * 2)).block, (ar.add (p * 2)).off + 1, none⟩ = some (.int .i64 yd)) (ds := []) (bA_ 21 0) (by kernel_rfl) rfl rfl ⟨(HXC.out _ HGD.out).1, (HXC.out _ HGD.out).2, (HPC.out _ HGD.out).1, (HPC.out _ HGD.out).2⟩ (fun hHeld => ?_)
         refine p2_ 0 30 (bA_ 21 1) ?_
         refine t2_ 1 31 (bA_ 21 3) hHeld ?_ (hy := by rintro w' ⟨s0, s1, s2, s3⟩; go_simp; with_reducible rfl)
         refine o2_ 2 32 (bA_ 21 7) (fun K hK => ?_)
         refine goesF_ HFN.out.1 HFN.out.2.1 HFN.out.2.2 cap (#[.agg #[.int .i64 xv, .int .i64 xd]] ++ cap) (by rfl) rfl rfl rfl (by simp only [List.map_toArray, List.map_cons, List.map_nil]; rfl) ?_
         with_reducible refine (HMX.out _ HGD.out).mono ?_
         rintro e w3 ⟨rfl, g3⟩
         refine ⟨_, rfl, ?_⟩
         have HGE := Lib.hid (HGD.out.trans (g3.mono HGD.out.size))
         clear g3
         refine hK.out _ _ ⟨(HXC.out _ HGE.out).1, (HXC.out _ HGE.out).2, (HPC.out _ HGE.out).1, (HPC.out _ HGE.out).2⟩ (fun hHeld => ?_)
         clear hK K
         refine n2_ 32 ?_
         refine p2_ 3 33 (bA_ 21 15) ?_
         refine p2_ 4 34 (bA_ 21 31) ?_
         refine p2_ 5 35 (bA_ 21 63) ?_
         refine p2_ 6 36 (bA_ 21 127) ?_
         refine p2_ 7 37 (bA_ 21 255) ?_
         refine p2_ 8 38 (bA_ 21 511) ?_
         refine p2_ 11 41 (bA_ 21 2559) ?_
         refine p2_ 12 42 (bA_ 21 6655) ?_
         refine p2_ 13 43 (bA_ 21 14847) ?_
         refine p2_ 14 44 (bA_ 21 31231) ?_
         refine p2_ 15 45 (bA_ 21 63999) ?_
         refine t2_ 9 39 (bA_ 21 64511) hHeld ?_ (hy := by rintro w' ⟨s0, s1, s2, s3⟩; go_simp; with_reducible rfl)
         refine t2_ 16 46 (bA_ 21 130047) hHeld ?_ (hy := by rintro w' ⟨s0, s1, s2, s3⟩; go_simp; with_reducible rfl)
         refine o2_ 10 40 (bA_ 21 131071) (fun K hK => ?_)
         refine goesF_ Tryz.func52 (by kernel_rfl) rfl #[] #[.agg #[.int .i64 xv, .int .i64 xd]] (by rfl) rfl rfl rfl (by simp only [List.map_toArray, List.map_cons, List.map_nil]; rfl) ?_
         with_reducible refine (key2_walk _ xv xd).mono ?_
         rintro e w4 ⟨rfl, g4⟩
         refine ⟨_, rfl, ?_⟩
         have HGF := Lib.hid (HGE.out.trans (g4.mono HGE.out.size))
         clear g4
         refine hK.out _ _ ⟨(HXC.out _ HGF.out).1, (HXC.out _ HGF.out).2, (HPC.out _ HGF.out).1, (HPC.out _ HGF.out).2⟩ (fun hHeld => ?_)
         clear hK K
         refine n2_ 40 ?_
         refine o2_ 17 47 (bA_ 21 262143) (fun K hK => ?_)
         refine goesF_ Tryz.func52 (by kernel_rfl) rfl #[] #[.agg #[.int .i64 yv, .int .i64 yd]] (by rfl) rfl rfl rfl (by simp only [List.map_toArray, List.map_cons, List.map_nil]; rfl) ?_
         with_reducible refine (key2_walk _ yv yd).mono ?_
         rintro e w5 ⟨rfl, g4⟩
         refine ⟨_, rfl, ?_⟩
         have HGG := Lib.hid (HGF.out.trans (g4.mono HGF.out.size))
         clear g4
         refine hK.out _ _ ⟨(HXC.out _ HGG.out).1, (HXC.out _ HGG.out).2, (HPC.out _ HGG.out).1, (HPC.out _ HGG.out).2⟩ (fun hHeld => ?_)
         clear hK K
         refine n2_ 47 ?_
         refine p2_ 18 48 (bA_ 21 524287) ?_
         refine p2_ 19 49 (bA_ 21 1048575) ?_
         refine p2_ 20 50 (bA_ 21 2097151) ?_
         refine done_ (by kernel_rfl) ?_
         have HGZ := Lib.hid (HGB.out.trans (HGG.out.mono HGB.out.size))
         go_wp2_with fail
         all_goals (try rw [Exit.noGoto_ret])
         all_goals go_ret
         all_goals exact ⟨by rw [HS1.out]; rfl, HBW.out _ HGZ.out⟩
      ·have hmf : may ⟨xv, xd⟩ = false := by simpa using hmx
       have HS1 : Hid (RES = false) := Lib.hid (HN1.out (by rw [HST.out, hmf]; rfl))
       rw [hmf] at HMX
       clear hmx
       go_upto_region 9 with fail
       generalize wr.alloc (.cells #[.int .i64 xv, .int .i64 xd] 37) = WX at *
       generalize wr.heap.size = gx at *
       have HXC : Hid (∀ W, Below WX.heap.size WX W → W.cell? ⟨gx, 0, none⟩ = some (.int .i64 xv) ∧ W.cell? ⟨gx, 1, none⟩ = some (.int .i64 xd)) := Lib.hid (fun W g => by
        have hb := (g.block _ (blk_lt HXB.out)).trans HXB.out
        exact ⟨(blk_cell hb 0).trans rfl, (blk_cell hb 1).trans rfl⟩)
       have HMX2 := Lib.hid (fun W (g : Below WX.heap.size WX W) => HMX.out W (HGB.out.trans (g.mono HGB.out.size)))
       clear HMX HGD
       have HMX := HMX2
       clear HMX2
       have HGD : Hid (Below WX.heap.size WX WX.drew) := Lib.hid (Below.refl _ _).drew
       refine start_ (n := 21) (S := fun w' => w'.cell? ⟨gx, 0, none⟩ = some (.int .i64 xv) ∧ w'.cell? ⟨gx, 1, none⟩ = some (.int .i64 xd)) (ds := []) (bA_ 21 0) (by kernel_rfl) rfl rfl ⟨(HXC.out _ HGD.out).1, (HXC.out _ HGD.out).2⟩ (fun hHeld => ?_)
       refine p2_ 0 30 (bA_ 21 1) ?_
       refine t2_ 1 31 (bA_ 21 3) hHeld ?_ (hy := by rintro w' ⟨s0, s1⟩; go_simp; with_reducible rfl)
       refine o2_ 2 32 (bA_ 21 7) (fun K hK => ?_)
       refine goesF_ HFN.out.1 HFN.out.2.1 HFN.out.2.2 cap (#[.agg #[.int .i64 xv, .int .i64 xd]] ++ cap) (by rfl) rfl rfl rfl (by simp only [List.map_toArray, List.map_cons, List.map_nil]; rfl) ?_
       with_reducible refine (HMX.out _ HGD.out).mono ?_
       rintro e w3 ⟨rfl, g3⟩
       refine ⟨_, rfl, ?_⟩
       have HGE := Lib.hid (HGD.out.trans (g3.mono HGD.out.size))
       clear g3
       refine hK.out _ _ ⟨(HXC.out _ HGE.out).1, (HXC.out _ HGE.out).2⟩ (fun hHeld => ?_)
       clear hK K
       refine n2_ 32 ?_
       refine p2_ 3 33 (bA_ 21 15) ?_
       refine p2_ 4 34 (bA_ 21 31) ?_
       refine pu2_ 5 35 (bA_ 21 63) ?_
       refine pu2_ 6 36 (bA_ 21 127) ?_
       refine pu2_ 7 37 (bA_ 21 255) ?_
       refine pu2_ 8 38 (bA_ 21 511) ?_
       refine pu2_ 9 39 (bA_ 21 1023) ?_
       refine pu2_ 10 40 (bA_ 21 2047) ?_
       refine pu2_ 11 41 (bA_ 21 4095) ?_
       refine pu2_ 12 42 (bA_ 21 8191) ?_
       refine pu2_ 13 43 (bA_ 21 16383) ?_
       refine pu2_ 14 44 (bA_ 21 32767) ?_
       refine pu2_ 15 45 (bA_ 21 65535) ?_
       refine pu2_ 16 46 (bA_ 21 131071) ?_
       refine pu2_ 17 47 (bA_ 21 262143) ?_
       refine pu2_ 18 48 (bA_ 21 524287) ?_
       refine pu2_ 19 49 (bA_ 21 1048575) ?_
       refine p2_ 20 50 (bA_ 21 2097151) ?_
       refine done_ (by kernel_rfl) ?_
       have HGZ := Lib.hid (HGB.out.trans (HGE.out.mono HGB.out.size))
       go_wp2_with fail
       all_goals (try rw [Exit.noGoto_ret])
       all_goals go_ret
       all_goals exact ⟨by rw [HS1.out]; rfl, HBW.out _ HGZ.out⟩
     ·have HDN : Hid ((rows.take (i + 1)).all (fun r => okToR may r r.length) = true) := Lib.hid (by
       have e : j = m := by omega
       rw [HTK.out, HOK.out, ← e, HOJ.out]; rfl)
      have hjm : m ≤ j := by omega
      have HBO := Lib.hid (HBW.out _ HBJ.out)
      go_wp2_with fail
      go_roundw
      case measure => simp [intOf]; omega
      case rel => exact ⟨i + 1, by go_num, by omega, HDN, HBO⟩
   ·have HT : Hid (RES = true) := Lib.hid (by
     have := HOK.out
     rw [List.take_of_length_le (by rw [HLEN.out]; omega)] at this
     rw [HRI.out, this])
    have hil : len ≤ i := by omega
    go_wp2_with fail
    all_goals (try rw [Exit.noGoto_ret])
    all_goals go_ret
    all_goals exact ⟨by rw [HT.out]; rfl, HB.out⟩
 ·have HRI : Hid (risingR may rows n = false) := Lib.hid (by unfold risingR; rw [hlen]; simp [hn])
  have t0 : ((len : Int) != n) = true := by simp [hn]
  generalize risingR may rows n = RES at *
  clear hlen hn
  go_enter Tryz.func60, Tryz.ntmps60
  go_wp2_with fail
  all_goals (try rw [Exit.noGoto_ret])
  all_goals go_ret
  all_goals exact ⟨by rw [HRI.out]; rfl, HB0.out⟩
theorem far1_walk (w : World) (d : Int) : Calls Tryz.prog 105 #[.int .i64 d] w fun r w' => r = .returned (.bool (!longP d (-1))) ∧ w = w' := by
 have HL := Lib.hid (long_walk w d (-1))
 generalize longP d (-1) = b at *
 go_enter Tryz.func105, Tryz.ntmps105
 go_wp2_with (first | (go_at_call 56; refine HL.out.mono ?_; rintro e w2 ⟨rfl, rfl⟩))
 all_goals go_ret
 all_goals exact ⟨rfl, rfl⟩
def badP (r : List Int) : Bool := r.any fun d => !longP d (-1)
theorem badP_take (r : List Int) (i : Nat) (h : i < r.length) : badP (r.take (i + 1)) = (badP (r.take i) || !longP (rd r (i : Int)) (-1)) := by
 unfold badP
 rw [List.take_succ_eq_append_getElem h, List.any_append]
 simp [rd, List.getD, h]
set_option maxHeartbeats 1000000 in
theorem index105_walk (w : World) (Aa : Option Addr) (ca : Nat) (a : List Int) (hCa : Kd.C (Kd.int .i64) w Aa a.length a) (hca : a.length ≤ ca) (hla : a.length ≤ 1000000) :
  Calls Tryz.prog 91 #[.slice Aa a.length ca, .func (.func 105) #[] #[]] w fun r w' => ∃ i : Int, r = .returned (.int .i64 i) ∧ decide (i ≥ 0) = badP a ∧ w = w' := by
 obtain ⟨len, hlen⟩ : ∃ len, a.length = len := ⟨_, rfl⟩
 have HLEN := Lib.hid hlen
 have HA := Lib.hid hCa
 rw [hlen] at hca hla ⊢
 clear hCa hlen
 go_enter Tryz.func91, Tryz.ntmps91
 go_wp2_with fail
 go_loopw [8] (fun v8 wr => ∃ i : Nat, v8 = .int .i64 i ∧ i ≤ len ∧ wr = w ∧ Hid (badP (a.take i) = false)) (fun v8 _ => len - (intOf v8).toNat)
 case atStart => exact ⟨0, rfl, by omega, rfl, Lib.hid rfl⟩
 case round =>
  obtain ⟨i, rfl, hi, rfl, HF⟩ := hrel
  by_cases hlt : i < len
  ·obtain ⟨ad, rfl, hc⟩ := Kd.at_int HA.out (i : Int) (by omega) (by have := HLEN.out; omega)
   have hc' : wr.cell? (ad.add i) = some (.int .i64 (rd a i)) := hc
   have hT := badP_take a i (by have := HLEN.out; omega)
   rw [HF.out, Bool.false_or] at hT
   have HC' := Lib.hid (far1_walk wr (rd a i))
   have hi0 : (0 : Int) ≤ (i : Int) := Int.natCast_nonneg _
   have hi1 : (i : Int) < (len : Int) := by omega
   clear hc
   generalize (!longP (rd a (i : Int)) (-1)) = B at *
   have HT := Lib.hid hT
   clear hT
   cases B with
   | true =>
    have HAL : Hid (badP a = true) := Lib.hid (by
     have h1 := HT.out
     unfold badP at h1 ⊢
     rw [List.any_eq_true] at h1 ⊢
     obtain ⟨x, hx, hp⟩ := h1
     exact ⟨x, List.mem_of_mem_take hx, hp⟩)
    go_wp2_with (first | (go_at_call 105; refine HC'.out.mono ?_; rintro e w1 ⟨rfl, rfl⟩))
    (try rw [Exit.noGoto_ret])
    go_ret
    exact ⟨_, rfl, by rw [HAL.out]; simp, rfl⟩
   | false =>
    go_wp2_with (first | (go_at_call 105; refine HC'.out.mono ?_; rintro e w1 ⟨rfl, rfl⟩))
    go_roundw
    case measure => simp [intOf]; omega
    case rel => exact ⟨i + 1, by go_num, by omega, trivial, Lib.hid HT.out⟩
  ·have HAL : Hid (badP a = false) := Lib.hid (by have := HF.out; rwa [List.take_of_length_le (by have := HLEN.out; omega)] at this)
   have hil : len ≤ i := by omega
   go_wp2_with fail
   go_ret
   exact ⟨_, rfl, by rw [HAL.out]; simp, rfl⟩
theorem contains105_walk (w : World) (Aa : Option Addr) (ca : Nat) (a : List Int) (hCa : Kd.C (Kd.int .i64) w Aa a.length a) (hca : a.length ≤ ca) (hla : a.length ≤ 1000000) :
  Calls Tryz.prog 39 #[.slice Aa a.length ca, .func (.func 105) #[] #[]] w fun r w' => r = .returned (.bool (badP a)) ∧ w = w' := by
 have HI := Lib.hid (index105_walk w Aa ca a hCa hca hla)
 clear hCa hca hla
 generalize a.length = la at *
 go_enter Tryz.func39, Tryz.ntmps39
 go_wp2_with fail
 refine HI.out.mono ?_
 rintro e w1 ⟨i, rfl, hi, rfl⟩
 have HE := Lib.hid hi
 clear hi
 go_wp2_with fail
 go_ret
 exact ⟨by rw [← HE.out]; rfl, rfl⟩
def farRow (m : Nat) (far : List (List Int)) (i : Nat) : Bool := decide ((rd_L5 far (i : Int)).length = m) && (decide (rd (rd_L5 far (i : Int)) (i : Int) = 0) && !badP (rd_L5 far (i : Int)))
def farOk (m : Nat) (far : List (List Int)) : Bool := decide (far.length = m) && (List.range far.length).all (farRow m far)
theorem farOk_no {m : Nat} {far : List (List Int)} {i : Nat} (hi : i < far.length) (h : farRow m far i = false) : farOk m far = false := by
 have : (List.range far.length).all (farRow m far) = false := by
  rw [List.all_eq_false]
  exact ⟨i, List.mem_range.2 hi, by simp [h]⟩
 unfold farOk
 rw [this, Bool.and_false]
set_option maxRecDepth 100000 in
set_option maxHeartbeats 4000000 in
theorem far_ok_walk (w : World) (A0 A1 A2 A3 A4 A5 : Option Addr) (m n2 n3 n4 n5 c0 c1 c2 c3 c4 c5 : Nat) (far : List (List Int)) (hF : Kd.C kII w A1 far.length far) (hm : m ≤ 1000000) (hl : far.length ≤ 1000000) (hls : ∀ r ∈ far, r.length ≤ 1000000) :
  Calls Tryz.prog 59 #[.agg #[.slice A0 m c0, .slice A1 far.length c1, .slice A2 n2 c2, .slice A3 n3 c3, .slice A4 n4 c4, .slice A5 n5 c5]] w fun r w' => r = .returned (.bool (farOk m far)) ∧ Below w.heap.size w w' := by
 have HB0 : Hid (Below w.heap.size w (w.alloc (.cells #[.slice A0 m c0, .slice A1 far.length c1, .slice A2 n2 c2, .slice A3 n3 c3, .slice A4 n4 c4, .slice A5 n5 c5] 46))) := Lib.hid ((Below.refl _ _).alloc (Nat.le_refl _) _)
 have HX0 := Lib.hid (blk_new w (.cells #[.slice A0 m c0, .slice A1 far.length c1, .slice A2 n2 c2, .slice A3 n3 c3, .slice A4 n4 c4, .slice A5 n5 c5] 46))
 have HFC := Lib.hid (Kd.C_below hF HB0.out)
 have HLS := Lib.hid hls
 have HDF : Hid (farOk m far = (decide (far.length = m) && (List.range far.length).all (farRow m far))) := Lib.hid rfl
 have HNO : Hid (∀ i, i < far.length → farRow m far i = false → farOk m far = false) := Lib.hid (fun i hi h => farOk_no hi h)
 obtain ⟨nf, hnf⟩ : ∃ nf, far.length = nf := ⟨_, rfl⟩
 have HNF := Lib.hid hnf
 rw [hnf] at HB0 HX0 HFC HDF HNO hl ⊢
 clear hF hls hnf
 generalize farOk m far = RES at *
 by_cases hmf : nf = m
 ·subst hmf
  have t0 : ((nf : Int) != (nf : Int)) = false := by simp
  have HDF2 : Hid (RES = (List.range nf).all (farRow nf far)) := Lib.hid (by rw [HDF.out]; simp)
  clear HDF
  go_enter Tryz.func59, Tryz.ntmps59
  have c0' := (blk_cell HX0.out 0).trans rfl
  have c1' := (blk_cell HX0.out 1).trans rfl
  have cl' := blk_lt HX0.out
  go_wp2_with fail
  generalize w.alloc (.cells #[.slice A0 nf c0, .slice A1 nf c1, .slice A2 n2 c2, .slice A3 n3 c3, .slice A4 n4 c4, .slice A5 n5 c5] 46) = W1 at *
  go_loopw [15] (fun v15 wr => ∃ i : Nat, v15 = .int .i64 i ∧ i ≤ nf ∧ wr = W1 ∧ Hid ((List.range i).all (farRow nf far) = true)) (fun v15 _ => nf - (intOf v15).toNat)
  case atStart => exact ⟨0, rfl, by omega, rfl, Lib.hid rfl⟩
  case round =>
   obtain ⟨i, rfl, hi, rfl, HOK⟩ := hrel
   by_cases hlt : i < nf
   ·have hi0 : (0 : Int) ≤ (i : Int) := Int.natCast_nonneg _
    have hi1 : (i : Int) < (nf : Int) := by omega
    obtain ⟨ad, Ar, cr, hA, hcell, hcr, hCr⟩ := at_L5 HFC.out (i : Int) (by omega) (by omega)
    simp only [Int.toNat_natCast] at hcell
    subst hA
    have hil : i < far.length := by rw [HNF.out]; exact hlt
    have hrm : rd_L5 far (i : Int) ∈ far := by
     have hre : rd_L5 far (i : Int) = far[i] := by simp [rd_L5, List.getD, hil]
     rw [hre]; exact List.getElem_mem _
    have hml := HLS.out _ hrm
    have HCT := Lib.hid (contains105_walk wr Ar cr _ hCr hcr hml)
    have HSU : Hid ((List.range (i + 1)).all (farRow nf far) = ((List.range i).all (farRow nf far) && farRow nf far i)) := Lib.hid (by simp [List.range_succ])
    have HN1 := Lib.hid (HNO.out i hlt)
    have HFR : Hid (farRow nf far i = (decide ((rd_L5 far (i : Int)).length = nf) && (decide (rd (rd_L5 far (i : Int)) (i : Int) = 0) && !badP (rd_L5 far (i : Int))))) := Lib.hid rfl
    have HCI : Hid (∀ _ : (rd_L5 far (i : Int)).length = nf, ∃ br, Ar = some br ∧ wr.cell? (br.add i) = some (.int .i64 (rd (rd_L5 far (i : Int)) (i : Int)))) := Lib.hid (fun e => by
     obtain ⟨br, hB, hc⟩ := Kd.at_int hCr (i : Int) (by omega) (by omega)
     exact ⟨br, hB, hc⟩)
    clear hrm hil hCr
    generalize rd (rd_L5 far (i : Int)) (i : Int) = d at *
    generalize badP (rd_L5 far (i : Int)) = bad at *
    generalize (rd_L5 far (i : Int)).length = lr at *
    by_cases hlr : lr = nf
    ·obtain ⟨br, hB, hd⟩ := HCI.out hlr
     subst hB hlr
     by_cases hd0 : d = 0
     ·have t1 : (d != 0) = false := by simp [hd0]
      have HFR2 : Hid (farRow lr far i = !bad) := Lib.hid (by rw [HFR.out]; simp [hd0])
      clear hd0 HFR HCI
      cases bad with
      | true =>
       have HR : Hid (RES = false) := Lib.hid (HN1.out (by rw [HFR2.out]; rfl))
       go_wp2_with (first | (go_at_call 39; refine HCT.out.mono ?_; rintro e w2 ⟨rfl, rfl⟩))
       all_goals (try rw [Exit.noGoto_ret])
       all_goals go_ret
       all_goals exact ⟨by rw [HR.out]; rfl, HB0.out⟩
      | false =>
       have HS1 : Hid ((List.range (i + 1)).all (farRow lr far) = true) := Lib.hid (by rw [HSU.out, HOK.out, HFR2.out]; rfl)
       go_wp2_with (first | (go_at_call 39; refine HCT.out.mono ?_; rintro e w2 ⟨rfl, rfl⟩))
       go_roundw
       case measure => simp [intOf]; omega
       case rel => exact ⟨i + 1, by go_num, by omega, trivial, HS1⟩
     ·have t1 : (d != 0) = true := by simp [hd0]
      have HR : Hid (RES = false) := Lib.hid (HN1.out (by rw [HFR.out]; simp [hd0]))
      clear hd0 HFR HCI
      go_wp2_with fail
      all_goals (try rw [Exit.noGoto_ret])
      all_goals go_ret
      all_goals exact ⟨by rw [HR.out]; rfl, HB0.out⟩
    ·have t1 : ((lr : Int) != (nf : Int)) = true := by simp; omega
     have HR : Hid (RES = false) := Lib.hid (HN1.out (by rw [HFR.out]; simp [hlr]))
     clear hlr HFR HCI
     go_wp2_with fail
     all_goals (try rw [Exit.noGoto_ret])
     all_goals go_ret
     all_goals exact ⟨by rw [HR.out]; rfl, HB0.out⟩
   ·have HR : Hid (RES = true) := Lib.hid (by
     have e : i = nf := by omega
     have h := HOK.out
     rw [e] at h
     rw [HDF2.out, h])
    have hil : nf ≤ i := by omega
    go_wp2_with fail
    all_goals (try rw [Exit.noGoto_ret])
    all_goals go_ret
    all_goals exact ⟨by rw [HR.out]; rfl, HB0.out⟩
 ·have t0 : ((nf : Int) != (m : Int)) = true := by simp; omega
  have HR : Hid (RES = false) := Lib.hid (by rw [HDF.out]; simp [hmf])
  clear hmf HDF
  go_enter Tryz.func59, Tryz.ntmps59
  have c0' := (blk_cell HX0.out 0).trans rfl
  have c1' := (blk_cell HX0.out 1).trans rfl
  go_wp2_with fail
  all_goals (try rw [Exit.noGoto_ret])
  all_goals go_ret
  all_goals exact ⟨by rw [HR.out]; rfl, HB0.out⟩
structure TabAt where
 A0 : Option Addr
 c0 : Nat
 A1 : Option Addr
 c1 : Nat
 A2 : Option Addr
 c2 : Nat
 A3 : Option Addr
 c3 : Nat
 A4 : Option Addr
 c4 : Nat
 A5 : Option Addr
 c5 : Nat
structure TabC (w : World) (a : TabAt) (t : TabP) : Prop where
 g : Kd.C (Kd.int .i64) w a.A0 t.g.length t.g
 far : Kd.C kII w a.A1 t.far.length t.far
 out : Kd.C kRR w a.A2 t.out.length t.out
 inn : Kd.C kRR w a.A3 t.inn.length t.inn
 so : Kd.C kII w a.A4 t.so.length t.so
 si : Kd.C kII w a.A5 t.si.length t.si
 cg : t.g.length ≤ a.c0
abbrev TabAt.cells (a : TabAt) (t : TabP) : Array Value := #[.slice a.A0 t.g.length a.c0, .slice a.A1 t.far.length a.c1, .slice a.A2 t.out.length a.c2, .slice a.A3 t.inn.length a.c3, .slice a.A4 t.so.length a.c4, .slice a.A5 t.si.length a.c5]
theorem TabC.below {w w' : World} {a : TabAt} {t : TabP} (h : TabC w a t) (g : Below w.heap.size w w') : TabC w' a t :=
 ⟨Kd.C_below h.g g, Kd.C_below h.far g, Kd.C_below h.out g, Kd.C_below h.inn g, Kd.C_below h.so g, Kd.C_below h.si g, h.cg⟩
theorem TabR.reads {w : World} {b : Nat} {v : Value} {t : TabP} (h : TabR w b v t) : ∃ a : TabAt, v = .agg (a.cells t) ∧ TabC w a t := by
 obtain ⟨vG, vF, vO, vI, vS, vT, rfl, h0, h1, h2, h3, h4, h5⟩ := h
 obtain ⟨A0, c0, rfl, l0, r0⟩ := Kd.R_reads h0
 obtain ⟨A1, c1, rfl, _, r1⟩ := Kd.R_reads h1
 obtain ⟨A2, c2, rfl, _, r2⟩ := Kd.R_reads h2
 obtain ⟨A3, c3, rfl, _, r3⟩ := Kd.R_reads h3
 obtain ⟨A4, c4, rfl, _, r4⟩ := Kd.R_reads h4
 obtain ⟨A5, c5, rfl, _, r5⟩ := Kd.R_reads h5
 exact ⟨⟨A0, c0, A1, c1, A2, c2, A3, c3, A4, c4, A5, c5⟩, rfl, ⟨r0, r1, r2, r3, r4, r5, l0⟩⟩
structure TabSm (t : TabP) : Prop where
 g : t.g.length ≤ 1000000
 far : t.far.length ≤ 1000000
 fars : ∀ r ∈ t.far, r.length ≤ 1000000
 out : t.out.length ≤ 1000000
 outs : ∀ r ∈ t.out, r.length ≤ 1000000
 inn : t.inn.length ≤ 1000000
 inns : ∀ r ∈ t.inn, r.length ≤ 1000000
 so : t.so.length ≤ 1000000
 sos : ∀ r ∈ t.so, r.length ≤ 1000000
 si : t.si.length ≤ 1000000
 sis : ∀ r ∈ t.si, r.length ≤ 1000000
def checkP (n : Int) (t : TabP) : Int :=
 if n > 16777216 then 3 else if n < 0 then 2 else if risingI (inP n) [t.g] 1 = false then 2 else if farOk t.g.length t.far = false then 2
 else if risingR (greatQ t.g) t.out n = false then 2 else if risingR (greatQ t.g) t.inn n = false then 2 else if risingI (lowQ t.g n) t.so n = false then 2 else if risingI (lowQ t.g n) t.si n = false then 2 else 0
theorem rises_of {may : Int → Bool} {g : List Int} (h : risingI may [g] 1 = true) : g.Pairwise (fun a b => a < b) ∧ ∀ x ∈ g, may x = true := by
 have h1 : okToI may g g.length = true := by
  unfold risingI at h
  simpa using h
 unfold okToI at h1
 rw [List.all_eq_true] at h1
 have hst : ∀ q : Nat, q < g.length → may (rd g (q : Int)) = true ∧ (q = 0 ∨ rd g ((q : Int) - 1) < rd g (q : Int)) := fun q hq => by
  have := h1 q (List.mem_range.2 hq)
  unfold stepTI at this
  simpa using this
 have hup : ∀ (p k : Nat), p + k + 1 < g.length → rd g (p : Int) < rd g ((p + k + 1 : Nat) : Int) := fun p k => by
  induction k with
  | zero =>
   intro hk
   rcases (hst (p + 0 + 1) hk).2 with e | e
   ·omega
   ·rw [show ((p + 0 + 1 : Nat) : Int) - 1 = (p : Int) by omega] at e
    exact e
  | succ k ih =>
   intro hk
   have i1 := ih (by omega)
   rcases (hst (p + (k + 1) + 1) hk).2 with e | e
   ·omega
   ·rw [show ((p + (k + 1) + 1 : Nat) : Int) - 1 = ((p + k + 1 : Nat) : Int) by omega] at e
    omega
 refine ⟨List.pairwise_iff_getElem.2 (fun i j hi hj hij => ?_), fun x hx => ?_⟩
 ·have := hup i (j - i - 1) (by omega)
  rw [show i + (j - i - 1) + 1 = j by omega, rd_get hi, rd_get hj] at this
  exact this
 ·obtain ⟨q, hq, e⟩ := List.getElem_of_mem hx
  have := (hst q hq).1
  rwa [rd_get hq, e] at this
theorem C_one {w : World} {A : Option Addr} {c : Nat} {g : List Int} (hC : Kd.C (Kd.int .i64) w A g.length g) (hc : g.length ≤ c) : Kd.C kII (w.alloc (.cells #[.slice A g.length c] 28)) (some ⟨w.heap.size, 0, none⟩) 1 [g] := by
 have hb := blk_new w (.cells #[.slice A g.length c] 28)
 refine ⟨rfl, by omega, fun _ => ⟨_, rfl, fun j p hj => ?_⟩⟩
 obtain ⟨hj0, rfl⟩ := List.getElem?_eq_some_iff.1 hj
 have : j = 0 := by simpa using hj0
 subst this
 refine ⟨[.slice A g.length c], rfl, ⟨A, c, rfl, hc, Kd.C_alloc hC _⟩, fun i u hi => ?_⟩
 obtain ⟨hi0, rfl⟩ := List.getElem?_eq_some_iff.1 hi
 have : i = 0 := by simpa using hi0
 subst this
 exact (blk_cell hb 0).trans rfl
theorem run_store_fv {P : Program} {w : World} {a : Addr} {m : Mode} (f : Fn) (b c : Array Value) : (store a (.func f b c) m).run P w = stored P w a (.func f b c) m := run_store P w a _ m rfl
attribute [local go_sem] run_store_fv
set_option maxRecDepth 100000 in
set_option maxHeartbeats 8000000 in
theorem tcheck_walk (w : World) (a : TabAt) (t : TabP) (n : Int) (hT : TabC w a t) (hS : TabSm t) :
  Calls Tryz.prog 24 #[.int .i64 n, .agg (a.cells t)] w fun r w' => r = .returned (.int .i64 (checkP n t)) ∧ Below w.heap.size w w' := by
 obtain ⟨A0, c0, A1, c1, A2, c2, A3, c3, A4, c4, A5, c5⟩ := a
 have HT := Lib.hid hT
 have HS := Lib.hid hS
 have HCP : Hid (checkP n t = if n > 16777216 then 3 else if n < 0 then 2 else if risingI (inP n) [t.g] 1 = false then 2 else if farOk t.g.length t.far = false then 2
  else if risingR (greatQ t.g) t.out n = false then 2 else if risingR (greatQ t.g) t.inn n = false then 2 else if risingI (lowQ t.g n) t.so n = false then 2 else if risingI (lowQ t.g n) t.si n = false then 2 else 0) := Lib.hid rfl
 have HGP : Hid (risingI (inP n) [t.g] 1 = true → t.g.Pairwise (fun a b => a < b)) := Lib.hid (fun h => (rises_of h).1)
 generalize checkP n t = RES at *
 clear hT hS
 show Calls Tryz.prog 24 #[.int .i64 n, .agg #[.slice A0 t.g.length c0, .slice A1 t.far.length c1, .slice A2 t.out.length c2, .slice A3 t.inn.length c3, .slice A4 t.so.length c4, .slice A5 t.si.length c5]] w fun r w' => r = .returned (.int .i64 RES) ∧ Below w.heap.size w w'
 obtain ⟨w1, hw1⟩ : ∃ w1, w.alloc (.cells #[.int .i64 n] 3) = w1 := ⟨_, rfl⟩
 obtain ⟨w2, hw2⟩ : ∃ w2, w1.alloc (.cells #[.slice A0 t.g.length c0, .slice A1 t.far.length c1, .slice A2 t.out.length c2, .slice A3 t.inn.length c3, .slice A4 t.so.length c4, .slice A5 t.si.length c5] 46) = w2 := ⟨_, rfl⟩
 obtain ⟨w3, hw3⟩ : ∃ w3, w2.alloc (.cells #[.func (.func 53) #[] #[.pointer (some ⟨w.heap.size, 0, none⟩)]] 88) = w3 := ⟨_, rfl⟩
 have hs1 : w1.heap.size = w.heap.size + 1 := by rw [← hw1]; exact Array.size_push _
 have hs2 : w2.heap.size = w1.heap.size + 1 := by rw [← hw2]; exact Array.size_push _
 have hB3 : Below w.heap.size w w3 := by
  rw [← hw3, ← hw2, ← hw1]
  exact (((Below.refl _ _).alloc (Nat.le_refl _) _).alloc (by simp) _).alloc (by simp; omega) _
 have hX1 : w3.heap[w.heap.size]? = some (.cells #[.int .i64 n] 3 (0, 0)) := by
  have h1 := blk_new w (.cells #[.int .i64 n] 3)
  rw [hw1] at h1
  rw [← hw3, ← hw2]
  exact ((((Below.refl w1.heap.size w1).alloc (Nat.le_refl _) _).alloc (by simp) _).block _ (blk_lt h1)).trans h1
 have hX2 : w3.heap[w1.heap.size]? = some (.cells #[.slice A0 t.g.length c0, .slice A1 t.far.length c1, .slice A2 t.out.length c2, .slice A3 t.inn.length c3, .slice A4 t.so.length c4, .slice A5 t.si.length c5] 46 (0, 0)) := by
  have h1 := blk_new w1 (.cells #[.slice A0 t.g.length c0, .slice A1 t.far.length c1, .slice A2 t.out.length c2, .slice A3 t.inn.length c3, .slice A4 t.so.length c4, .slice A5 t.si.length c5] 46)
  rw [hw2] at h1
  rw [← hw3]
  exact (((Below.refl w2.heap.size w2).alloc (Nat.le_refl _) _).block _ (blk_lt h1)).trans h1
 have hX3 : w3.heap[w2.heap.size]? = some (.cells #[.func (.func 53) #[] #[.pointer (some ⟨w.heap.size, 0, none⟩)]] 88 (0, 0)) := by rw [← hw3]; exact blk_new w2 _
 have HB3 := Lib.hid hB3
 have HX1 := Lib.hid hX1
 have HX2 := Lib.hid hX2
 have HX3 := Lib.hid hX3
 have HW1 := Lib.hid hw1
 have HW2 := Lib.hid hw2
 have HW3 := Lib.hid hw3
 have HS1 := Lib.hid hs1
 have HS2 := Lib.hid hs2
 clear hB3 hX1 hX2 hX3 hw1 hw2 hw3 hs1 hs2
 have HCE : Hid (∀ W, Below w3.heap.size w3 W → W.cell? ⟨w.heap.size, 0, none⟩ = some (.int .i64 n) ∧ W.cell? ⟨w1.heap.size, 0, none⟩ = some (.slice A0 t.g.length c0) ∧ W.cell? ⟨w1.heap.size, 1, none⟩ = some (.slice A1 t.far.length c1) ∧ W.cell? ⟨w1.heap.size, 2, none⟩ = some (.slice A2 t.out.length c2) ∧ W.cell? ⟨w1.heap.size, 3, none⟩ = some (.slice A3 t.inn.length c3) ∧ W.cell? ⟨w1.heap.size, 4, none⟩ = some (.slice A4 t.so.length c4) ∧ W.cell? ⟨w1.heap.size, 5, none⟩ = some (.slice A5 t.si.length c5) ∧ W.cell? ⟨w2.heap.size, 0, none⟩ = some (.func (.func 53) #[] #[.pointer (some ⟨w.heap.size, 0, none⟩)])) := Lib.hid (fun W g => by
  have b1 := (g.block _ (blk_lt HX1.out)).trans HX1.out
  have b2 := (g.block _ (blk_lt HX2.out)).trans HX2.out
  have b3 := (g.block _ (blk_lt HX3.out)).trans HX3.out
  exact ⟨(blk_cell b1 0).trans rfl, (blk_cell b2 0).trans rfl, (blk_cell b2 1).trans rfl, (blk_cell b2 2).trans rfl, (blk_cell b2 3).trans rfl, (blk_cell b2 4).trans rfl, (blk_cell b2 5).trans rfl, (blk_cell b3 0).trans rfl⟩)
 have HTW : Hid (∀ W, Below w3.heap.size w3 W → TabC W ⟨A0, c0, A1, c1, A2, c2, A3, c3, A4, c4, A5, c5⟩ t) := Lib.hid (fun W g => HT.out.below (HB3.out.trans (g.mono HB3.out.size)))
 have HIN : Hid (∀ W, Below w3.heap.size w3 W → Calls Tryz.prog 58 #[.slice (some ⟨W.heap.size, 0, none⟩) 1 1, .int .i64 1, .func (.func 51) #[] #[], .func (.func 53) #[] #[.pointer (some ⟨w.heap.size, 0, none⟩)]] (W.alloc (.cells #[.slice A0 t.g.length c0] 28)) fun r w' => r = .returned (.bool (risingI (inP n) [t.g] 1)) ∧ Below (W.alloc (.cells #[.slice A0 t.g.length c0] 28)).heap.size (W.alloc (.cells #[.slice A0 t.g.length c0] 28)) w') := Lib.hid (fun W g => by
  have ga : Below W.heap.size W (W.alloc (.cells #[.slice A0 t.g.length c0] 28)) := (Below.refl _ _).alloc (Nat.le_refl _) _
  refine risingI_walk _ 53 _ #[.pointer (some ⟨w.heap.size, 0, none⟩)] (inP n) Tryz.func53 (by kernel_rfl) rfl (some ⟨W.heap.size, 0, none⟩) 1 [t.g] 1 ?_ (by simp) (fun r hr => by rw [List.mem_singleton.1 hr]; exact HS.out.g) (fun W2 g2 v => ?_)
  ·exact C_one (HTW.out W g).g HT.out.cg
  ·have := in_walk W2 w.heap.size n v (HCE.out W2 (g.trans ((ga.trans (g2.mono ga.size)).mono g.size))).1
   exact this.mono (fun r w' hh => ⟨hh.1, hh.2 ▸ Below.refl _ _⟩))
 have HFA : Hid (∀ W, Below w3.heap.size w3 W → Calls Tryz.prog 59 #[.agg #[.slice A0 t.g.length c0, .slice A1 t.far.length c1, .slice A2 t.out.length c2, .slice A3 t.inn.length c3, .slice A4 t.so.length c4, .slice A5 t.si.length c5]] W fun r w' => r = .returned (.bool (farOk t.g.length t.far)) ∧ Below W.heap.size W w') := Lib.hid (fun W g => far_ok_walk W A0 A1 A2 A3 A4 A5 _ _ _ _ _ c0 c1 c2 c3 c4 c5 t.far (HTW.out W g).far HS.out.g HS.out.far HS.out.fars)
 have HGT : Hid (t.g.Pairwise (fun a b => a < b) → ∀ W, Below w3.heap.size w3 W → ∀ (x : S37), Calls Tryz.prog 54 #[.agg #[.int .i64 x.f0, .int .i64 x.f1], .pointer (some ⟨w1.heap.size, 0, none⟩)] W fun r w' => r = .returned (.bool (greatQ t.g x)) ∧ Below W.heap.size W w') := Lib.hid (fun hs W g x => greatQ_walk W w1.heap.size A0 c0 t.g x.f0 x.f1 (HCE.out W g).2.1 (HTW.out W g).g HT.out.cg hs HS.out.g)
 have HLW : Hid (t.g.Pairwise (fun a b => a < b) → ∀ W, Below w3.heap.size w3 W → ∀ (x : Int), Calls Tryz.prog 57 #[.int .i64 x, .pointer (some ⟨w2.heap.size, 0, none⟩), .pointer (some ⟨w1.heap.size, 0, none⟩)] W fun r w' => r = .returned (.bool (lowQ t.g n x)) ∧ Below W.heap.size W w') := Lib.hid (fun hs W g x => (lowQ_walk W w2.heap.size w.heap.size w1.heap.size A0 c0 t.g n x (HCE.out W g).2.2.2.2.2.2.2 (HCE.out W g).1 (HCE.out W g).2.1 (HTW.out W g).g HT.out.cg hs HS.out.g).mono (fun r w' hh => ⟨hh.1, by obtain ⟨j, rfl⟩ := hh.2; exact pw_below_drewN (Below.refl _ _) j⟩))
 have HRO : Hid (t.g.Pairwise (fun a b => a < b) → ∀ W, Below w3.heap.size w3 W → Calls Tryz.prog 60 #[.slice A2 t.out.length c2, .int .i64 n, .func (.func 52) #[] #[], .func (.func 54) #[] #[.pointer (some ⟨w1.heap.size, 0, none⟩)]] W fun r w' => r = .returned (.bool (risingR (greatQ t.g) t.out n)) ∧ Below W.heap.size W w') := Lib.hid (fun hs W g => risingR_walk W 54 _ #[.pointer (some ⟨w1.heap.size, 0, none⟩)] (greatQ t.g) Tryz.func54 (by kernel_rfl) rfl A2 c2 t.out n (HTW.out W g).out HS.out.out HS.out.outs (fun W2 g2 x => HGT.out hs W2 (g.trans (g2.mono g.size)) x))
 have HRN : Hid (t.g.Pairwise (fun a b => a < b) → ∀ W, Below w3.heap.size w3 W → Calls Tryz.prog 60 #[.slice A3 t.inn.length c3, .int .i64 n, .func (.func 52) #[] #[], .func (.func 54) #[] #[.pointer (some ⟨w1.heap.size, 0, none⟩)]] W fun r w' => r = .returned (.bool (risingR (greatQ t.g) t.inn n)) ∧ Below W.heap.size W w') := Lib.hid (fun hs W g => risingR_walk W 54 _ #[.pointer (some ⟨w1.heap.size, 0, none⟩)] (greatQ t.g) Tryz.func54 (by kernel_rfl) rfl A3 c3 t.inn n (HTW.out W g).inn HS.out.inn HS.out.inns (fun W2 g2 x => HGT.out hs W2 (g.trans (g2.mono g.size)) x))
 have HLO : Hid (t.g.Pairwise (fun a b => a < b) → ∀ W, Below w3.heap.size w3 W → Calls Tryz.prog 58 #[.slice A4 t.so.length c4, .int .i64 n, .func (.func 51) #[] #[], .func (.func 57) #[] #[.pointer (some ⟨w2.heap.size, 0, none⟩), .pointer (some ⟨w1.heap.size, 0, none⟩)]] W fun r w' => r = .returned (.bool (risingI (lowQ t.g n) t.so n)) ∧ Below W.heap.size W w') := Lib.hid (fun hs W g => risingI_walk W 57 _ #[.pointer (some ⟨w2.heap.size, 0, none⟩), .pointer (some ⟨w1.heap.size, 0, none⟩)] (lowQ t.g n) Tryz.func57 (by kernel_rfl) rfl A4 c4 t.so n (HTW.out W g).so HS.out.so HS.out.sos (fun W2 g2 x => HLW.out hs W2 (g.trans (g2.mono g.size)) x))
 have HLN : Hid (t.g.Pairwise (fun a b => a < b) → ∀ W, Below w3.heap.size w3 W → Calls Tryz.prog 58 #[.slice A5 t.si.length c5, .int .i64 n, .func (.func 51) #[] #[], .func (.func 57) #[] #[.pointer (some ⟨w2.heap.size, 0, none⟩), .pointer (some ⟨w1.heap.size, 0, none⟩)]] W fun r w' => r = .returned (.bool (risingI (lowQ t.g n) t.si n)) ∧ Below W.heap.size W w') := Lib.hid (fun hs W g => risingI_walk W 57 _ #[.pointer (some ⟨w2.heap.size, 0, none⟩), .pointer (some ⟨w1.heap.size, 0, none⟩)] (lowQ t.g n) Tryz.func57 (by kernel_rfl) rfl A5 c5 t.si n (HTW.out W g).si HS.out.si HS.out.sis (fun W2 g2 x => HLW.out hs W2 (g.trans (g2.mono g.size)) x))
 clear HTW HGT HLW HT HS
 generalize risingI (inP n) [t.g] 1 = b1 at *
 generalize farOk t.g.length t.far = b2 at *
 generalize risingR (greatQ t.g) t.out n = b3 at *
 generalize risingR (greatQ t.g) t.inn n = b4 at *
 generalize risingI (lowQ t.g n) t.so n = b5 at *
 generalize risingI (lowQ t.g n) t.si n = b6 at *
 generalize t.g.Pairwise (fun a b => a < b) = PW at *
 generalize t.g.length = l0 at *
 generalize t.far.length = l1 at *
 generalize t.out.length = l2 at *
 generalize t.inn.length = l3 at *
 generalize t.so.length = l4 at *
 generalize t.si.length = l5 at *
 by_cases hn1 : n > 16777216
 ·have e1 : decide (n > 16777216) = true := by simpa using hn1
  have HR : Hid (RES = 3) := Lib.hid (by rw [HCP.out, if_pos hn1])
  clear hn1
  go_enter Tryz.func24, Tryz.ntmps24
  go_upto_region 3 with fail
  rw [HW1.out, HW2.out, ← HS1.out]
  go_upto_region 6 with fail
  rw [HW3.out]
  obtain ⟨k0, k1, k2, k3, k4, k5, k6, k7⟩ := HCE.out w3 (Below.refl _ _)
  have kl0 := blk_lt HX1.out
  have kl1 := blk_lt HX2.out
  have kl2 := blk_lt HX3.out
  go_wp2_with fail
  all_goals (try rw [Exit.noGoto_ret])
  all_goals go_ret
  all_goals exact ⟨by rw [HR.out]; rfl, HB3.out⟩
 ·have e1 : decide (n > 16777216) = false := by simpa using hn1
  have HCP2 := Lib.hid (HCP.out.trans (if_neg hn1))
  clear hn1 HCP
  go_enter Tryz.func24, Tryz.ntmps24
  go_upto_region 3 with fail
  rw [HW1.out, HW2.out, ← HS1.out]
  go_upto_region 6 with fail
  rw [HW3.out]
  obtain ⟨k0, k1, k2, k3, k4, k5, k6, k7⟩ := HCE.out w3 (Below.refl _ _)
  have kl0 := blk_lt HX1.out
  have kl1 := blk_lt HX2.out
  have kl2 := blk_lt HX3.out
  by_cases hn0 : n < 0
  ·have e2 : decide (n < 0) = true := by simpa using hn0
   have HR : Hid (RES = 2) := Lib.hid (by rw [HCP2.out, if_pos hn0])
   clear hn0
   go_wp2_with fail
   all_goals (try rw [Exit.noGoto_ret])
   all_goals go_ret
   all_goals exact ⟨by rw [HR.out]; rfl, HB3.out⟩
  ·have e2 : decide (n < 0) = false := by simpa using hn0
   have HC0 := Lib.hid (HCP2.out.trans (if_neg hn0))
   have HG0 := Lib.hid (Below.refl w3.heap.size w3)
   clear hn0 HCP2
   go_wp2_with fail
   refine (HIN.out w3 (Below.refl _ _)).mono ?_
   rintro e V1 ⟨rfl, g⟩
   have HG1 : Hid (Below w3.heap.size w3 V1) := Lib.hid (((Below.refl w3.heap.size w3).alloc (Nat.le_refl _) _).trans (g.mono (by simp)))
   clear g
   cases b1 with
   | false =>
    have HR : Hid (RES = 2) := Lib.hid (by rw [HC0.out, if_pos rfl])
    go_wp2_with fail
    all_goals (try rw [Exit.noGoto_ret])
    all_goals go_ret
    all_goals exact ⟨by rw [HR.out]; rfl, HB3.out.trans (HG1.out.mono HB3.out.size)⟩
   | true =>
    have HPW := Lib.hid (HGP.out rfl)
    have HC1 := Lib.hid (HC0.out.trans (if_neg (by simp)))
    clear HC0
    clear k0 k1 k2 k3 k4 k5 k6 k7 kl0 kl1 kl2
    obtain ⟨k0, k1, k2, k3, k4, k5, k6, k7⟩ := HCE.out V1 HG1.out
    go_wp2_with fail
    refine (HFA.out V1 HG1.out).mono ?_
    rintro e V2 ⟨rfl, g⟩
    have HG2 := Lib.hid (HG1.out.trans (g.mono HG1.out.size))
    clear g
    cases b2 with
    | false =>
     have HR : Hid (RES = 2) := Lib.hid (by rw [HC1.out, if_pos rfl])
     go_wp2_with fail
     all_goals (try rw [Exit.noGoto_ret])
     all_goals go_ret
     all_goals exact ⟨by rw [HR.out]; rfl, HB3.out.trans (HG2.out.mono HB3.out.size)⟩
    | true =>
     have HC2 := Lib.hid (HC1.out.trans (if_neg (by simp)))
     clear HC1
     clear k0 k1 k2 k3 k4 k5 k6 k7
     obtain ⟨k0, k1, k2, k3, k4, k5, k6, k7⟩ := HCE.out V2 HG2.out
     go_wp2_with fail
     refine (HRO.out HPW.out V2 HG2.out).mono ?_
     rintro e V3 ⟨rfl, g⟩
     have HG3 := Lib.hid (HG2.out.trans (g.mono HG2.out.size))
     clear g
     cases b3 with
     | false =>
      have HR : Hid (RES = 2) := Lib.hid (by rw [HC2.out, if_pos rfl])
      go_wp2_with fail
      all_goals (try rw [Exit.noGoto_ret])
      all_goals go_ret
      all_goals exact ⟨by rw [HR.out]; rfl, HB3.out.trans (HG3.out.mono HB3.out.size)⟩
     | true =>
      have HC3 := Lib.hid (HC2.out.trans (if_neg (by simp)))
      clear HC2
      clear k0 k1 k2 k3 k4 k5 k6 k7
      obtain ⟨k0, k1, k2, k3, k4, k5, k6, k7⟩ := HCE.out V3 HG3.out
      go_wp2_with fail
      refine (HRN.out HPW.out V3 HG3.out).mono ?_
      rintro e V4 ⟨rfl, g⟩
      have HG4 := Lib.hid (HG3.out.trans (g.mono HG3.out.size))
      clear g
      cases b4 with
      | false =>
       have HR : Hid (RES = 2) := Lib.hid (by rw [HC3.out, if_pos rfl])
       go_wp2_with fail
       all_goals (try rw [Exit.noGoto_ret])
       all_goals go_ret
       all_goals exact ⟨by rw [HR.out]; rfl, HB3.out.trans (HG4.out.mono HB3.out.size)⟩
      | true =>
       have HC4 := Lib.hid (HC3.out.trans (if_neg (by simp)))
       clear HC3
       clear k0 k1 k2 k3 k4 k5 k6 k7
       obtain ⟨k0, k1, k2, k3, k4, k5, k6, k7⟩ := HCE.out V4 HG4.out
       go_wp2_with fail
       refine (HLO.out HPW.out V4 HG4.out).mono ?_
       rintro e V5 ⟨rfl, g⟩
       have HG5 := Lib.hid (HG4.out.trans (g.mono HG4.out.size))
       clear g
       cases b5 with
       | false =>
        have HR : Hid (RES = 2) := Lib.hid (by rw [HC4.out, if_pos rfl])
        go_wp2_with fail
        all_goals (try rw [Exit.noGoto_ret])
        all_goals go_ret
        all_goals exact ⟨by rw [HR.out]; rfl, HB3.out.trans (HG5.out.mono HB3.out.size)⟩
       | true =>
        have HC5 := Lib.hid (HC4.out.trans (if_neg (by simp)))
        clear HC4
        clear k0 k1 k2 k3 k4 k5 k6 k7
        obtain ⟨k0, k1, k2, k3, k4, k5, k6, k7⟩ := HCE.out V5 HG5.out
        go_wp2_with fail
        refine (HLN.out HPW.out V5 HG5.out).mono ?_
        rintro e V6 ⟨rfl, g⟩
        have HG6 := Lib.hid (HG5.out.trans (g.mono HG5.out.size))
        clear g
        cases b6 with
        | false =>
         have HR : Hid (RES = 2) := Lib.hid (by rw [HC5.out, if_pos rfl])
         go_wp2_with fail
         all_goals (try rw [Exit.noGoto_ret])
         all_goals go_ret
         all_goals exact ⟨by rw [HR.out]; rfl, HB3.out.trans (HG6.out.mono HB3.out.size)⟩
        | true =>
         have HC6 := Lib.hid (HC5.out.trans (if_neg (by simp)))
         clear HC5
         have HR : Hid (RES = 0) := HC6
         go_wp2_with fail
         all_goals (try rw [Exit.noGoto_ret])
         all_goals go_ret
         all_goals exact ⟨by rw [HR.out]; rfl, HB3.out.trans (HG6.out.mono HB3.out.size)⟩
end Go.Proofs.YtfkejflmhidnaaaGreat.PAll
