import Derived.Test.YtfkejflmhidnaaaGreatQHnD
import Derived.Laws.CopyOwn
set_option linter.all false
namespace Go.Proofs.YtfkejflmhidnaaaGreat.PAll
open RowKit YtfkejflmhidnaaaGreatW.PrintWords YtfkejflmhidnaaaGreatW.PrintLast YtfkejflmhidnaaaGreatW.PrintMore
open Hp hiding Good
theorem run_copyN {P : Program} (w : World) (dT sT ty elem : TypeId) (i : TypeInfo) (g o dLen dCap : Nat) (a : Addr) (sLen sCap : Nat) (cur : Array Value) (t : TypeId) (cs : List Value)
  (hu : P.underlying dT = some (.slice elem)) (hi : P.info? elem = some i)
  (hg : w.heap[g]? = some (.cells cur t (0, 0))) (hn : cs.length = Nat.min sLen dLen * i.size)
  (hsrc : ∀ j v, cs[j]? = some v → w.cell? (a.add j) = some v) (hfit : o + cs.length ≤ cur.size) (h1 : ∀ v ∈ cs, v.oneCell' = true) :
  (Builtin.copy_ #[dT, sT] ty #[.slice (some ⟨g, o, none⟩) dLen dCap, .slice (some a) sLen sCap]).run P w =
   .ok (goInt (Nat.min sLen dLen)) (w.setRow g (cur.toList.take o ++ cs ++ cur.toList.drop (o + cs.length)).toArray) := by
 have hl := run_firstCells_some (P := P) w i.size (Nat.min sLen dLen) a sLen sCap cs hn hsrc
 have hst := run_storeCells_at P g o t cs 0 cur w hg (by simpa using hfit) h1
 simp only [Nat.add_zero] at hst
 simp [Builtin.copy_, run_underlying hu, Builtin.lenOf, sizeOf, typeInfo, hi, hl, hst]
theorem wpList_copyN {P : Program} {w : World} {ops : Array Oper} {rest : List Oper} {o : Oper} {a : Act} {Q : Exit → Act → World → Prop} (hgd : o.guard = none) (d s : Operand) (dT sT : TypeId)
  (ho : o.op = .call { callee := .builtin .copy, args := #[d, s], argTypes := #[dT, sT] }) (elem : TypeId) (i : TypeInfo) (hu : P.underlying dT = some (.slice elem)) (hi : P.info? elem = some i)
  (g off dLen dCap : Nat) (ad : Addr) (sLen sCap : Nat) (hd : a.eval d = .slice (some ⟨g, off, none⟩) dLen dCap) (hs : a.eval s = .slice (some ad) sLen sCap)
  (cur : Array Value) (t : TypeId) (hg : w.heap[g]? = some (.cells cur t (0, 0))) (cs : List Value) (hn : cs.length = Nat.min sLen dLen * i.size)
  (hsrc : ∀ j v, cs[j]? = some v → w.cell? (ad.add j) = some v) (hfit : off + cs.length ≤ cur.size) (h1 : ∀ v ∈ cs, v.oneCell' = true)
  (h : wpList P ops Q rest (a.put o.dst (goInt (Nat.min sLen dLen))) (w.setRow g (cur.toList.take off ++ cs ++ cur.toList.drop (off + cs.length)).toArray)) :
  wpList P ops Q (o :: rest) a w := by
 refine wpList_plain hgd fun K' hK' => ?_
 have hrun := run_copyN (P := P) w dT sT o.type elem i g off dLen dCap ad sLen sCap cur t cs hu hi hg hn hsrc hfit h1
 unfold Oper.wp execOp
 simp only [ho, resolve, invoke, builtin, Sem.run_bind, Sem.run_pure, Result.andThen_ok, List.map_toArray, List.map_cons, List.map_nil, hd, hs, hrun]
 exact hK' _ _ h
theorem own_splice {w : World} {B e sz g n cap : Nat} {xs : List Value} (h : w.ownsRow B e sz (.slice (some ⟨g, 0, none⟩) n cap) n xs) (off : Nat) (cs : List Value) (hfit : off + cs.length ≤ n * sz) :
  ∃ cur, w.heap[g]? = some (.cells cur e (0, 0)) ∧ n * sz ≤ cur.size ∧ cur.toList.take (n * sz) = xs ∧
   (w.setRow g (cur.toList.take off ++ cs ++ cur.toList.drop (off + cs.length)).toArray).ownsRow B e sz (.slice (some ⟨g, 0, none⟩) n cap) n (xs.take off ++ cs ++ xs.drop (off + cs.length)) ∧
   Only w (w.setRow g (cur.toList.take off ++ cs ++ cur.toList.drop (off + cs.length)).toArray) (fun k => k = g) := by
 obtain ⟨h1, h2⟩ := h
 rcases h2 with ⟨h', _⟩ | ⟨g', cap', cur, h', hb, hg, hnc, hcm, hcs, htake⟩
 ·simp at h'
 ·simp only [Value.slice.injEq, Option.some.injEq, Addr.mk.injEq, and_true, true_and] at h'
  obtain ⟨rfl, rfl⟩ := h'
  have hle : n * sz ≤ cur.size := by rw [hcs]; exact Nat.mul_le_mul_right _ hnc
  have hcl : cur.toList.length = cur.size := Array.length_toList
  refine ⟨cur, hg, hle, htake, ⟨?_, .inr ⟨g, cap, _, rfl, hb, setRow_heap w g cur _ e _ hg, hnc, hcm, ?_, ?_⟩⟩, ⟨rfl, rfl, rfl, by simp, fun k _ hk => setRow_other w g k _ hk⟩⟩
  ·simp only [List.length_append, List.length_take, List.length_drop]; omega
  ·simp only [List.size_toArray, List.length_append, List.length_take, List.length_drop]; omega
  ·simp only
   rw [← htake]
   rw [← hcl] at hle
   generalize cur.toList = C at *
   have e1 : (C.take off ++ cs).length = off + cs.length := by simp only [List.length_append, List.length_take]; omega
   rw [List.take_append, List.take_of_length_le (by omega), e1, List.take_take, Nat.min_eq_left (by omega), List.drop_take]
def flat3 (l : List S75) : List Value := l.flatMap fun e => [.int .i64 e.f0, .int .i64 e.f1, .int .i64 e.f2]
theorem flat3_cons (e : S75) (l : List S75) : flat3 (e :: l) = .int .i64 e.f0 :: .int .i64 e.f1 :: .int .i64 e.f2 :: flat3 l := rfl
theorem flat3_append (l m : List S75) : flat3 (l ++ m) = flat3 l ++ flat3 m := by simp [flat3]
theorem flat3_len : ∀ l : List S75, (flat3 l).length = l.length * 3
 | [] => rfl
 | e :: l => by
  rw [flat3_cons]
  simp only [List.length_cons, flat3_len l]
  omega
theorem flat3_take : ∀ (l : List S75) (k : Nat), (flat3 l).take (k * 3) = flat3 (l.take k)
 | [], k => by simp [flat3]
 | e :: l, 0 => by simp [flat3]
 | e :: l, k + 1 => by
  rw [List.take_succ_cons, flat3_cons, flat3_cons, show (k + 1) * 3 = k * 3 + 1 + 1 + 1 by omega, List.take_succ_cons, List.take_succ_cons, List.take_succ_cons, flat3_take l k]
theorem flat3_drop : ∀ (l : List S75) (k : Nat), (flat3 l).drop (k * 3) = flat3 (l.drop k)
 | [], k => by simp [flat3]
 | e :: l, 0 => by simp
 | e :: l, k + 1 => by
  rw [List.drop_succ_cons, flat3_cons, show (k + 1) * 3 = k * 3 + 1 + 1 + 1 by omega, List.drop_succ_cons, List.drop_succ_cons, List.drop_succ_cons, flat3_drop l k]
theorem flat3_one (l : List S75) : ∀ v ∈ flat3 l, v.oneCell' = true := by
 intro v hv
 obtain ⟨e, _, he⟩ := List.mem_flatMap.1 hv
 simp only [List.mem_cons, List.not_mem_nil, or_false] at he
 rcases he with rfl | rfl | rfl <;> rfl
theorem flat3_get : ∀ (l : List S75) (i : Nat), i < l.length → (flat3 l)[i * 3]? = some (.int .i64 (rd_T75 l i).f0) ∧ (flat3 l)[i * 3 + 1]? = some (.int .i64 (rd_T75 l i).f1) ∧ (flat3 l)[i * 3 + 2]? = some (.int .i64 (rd_T75 l i).f2)
 | e :: l, 0, _ => ⟨rfl, rfl, rfl⟩
 | e :: l, i + 1, h => by
  have := flat3_get l i (by simpa using h)
  have e1 : rd_T75 (e :: l) ((i + 1 : Nat) : Int) = rd_T75 l (i : Int) := by simp [rd_T75]
  rw [e1, flat3_cons, show (i + 1) * 3 = i * 3 + 1 + 1 + 1 by omega]
  simpa using this
theorem flat3_set : ∀ (l : List S75) (i : Nat) (e : S75), flat3 (l.set i e) = (((flat3 l).set (i * 3) (.int .i64 e.f0)).set (i * 3 + 1) (.int .i64 e.f1)).set (i * 3 + 2) (.int .i64 e.f2)
 | [], i, e => by simp [flat3]
 | d :: l, 0, e => rfl
 | d :: l, i + 1, e => by
  have := flat3_set l i e
  rw [List.set_cons_succ, flat3_cons, flat3_cons, this, show (i + 1) * 3 = i * 3 + 1 + 1 + 1 by omega]
  rfl
def EdgeRow (w : World) (B : Nat) (v : Value) (l : List S75) : Prop := w.ownsRow B 75 3 v l.length (flat3 l)
theorem EdgeRow.only {w w' : World} {S : Nat → Prop} {B : Nat} {v : Value} {l : List S75} (h : EdgeRow w B v l) (g : Only w w' S) (hs : ∀ k, v.ownBlock = some k → ¬ S k) : EdgeRow w' B v l := own_only h g hs
theorem EdgeRow.R {w : World} {B : Nat} {v : Value} {l : List S75} (h : EdgeRow w B v l) : Kd.R k75 75 w B (fun _ => True) v l := by
 refine ⟨fun _ _ => trivial, flat3 l, h, flat3_len l, fun j p hj => ?_⟩
 rw [show k75.sz = 3 from rfl, flat3_drop]
 obtain ⟨hlt, rfl⟩ := List.getElem?_eq_some_iff.1 hj
 rw [List.drop_eq_getElem_cons hlt, flat3_cons]
 exact k75_mkM _ _ _ _
theorem EdgeRow.C {w : World} {B : Nat} {v : Value} {l : List S75} (h : EdgeRow w B v l) : ∃ A c, v = .slice A l.length c ∧ l.length ≤ c ∧ Kd.C k75 w A l.length l := Kd.R_reads h.R
def insAt (l : List S75) (x : Int) : Nat → Nat
 | 0 => 0
 | i + 1 => if (rd_T75 l (i : Int)).f0 < x then i + 1 else insAt l x i
theorem insAt_le (l : List S75) (x : Int) : ∀ i, insAt l x i ≤ i
 | 0 => Nat.le_refl _
 | i + 1 => by
  rw [insAt]
  split
  ·exact Nat.le_refl _
  ·have := insAt_le l x i; omega
def putP (l : List S75) (e : S75) : List S75 := l.take (insAt l e.f0 l.length) ++ e :: l.drop (insAt l e.f0 l.length)
theorem mem_putP (l : List S75) (e x : S75) : x ∈ putP l e ↔ x = e ∨ x ∈ l := by
 unfold putP
 rw [List.mem_append, List.mem_cons]
 have : x ∈ l ↔ x ∈ l.take (insAt l e.f0 l.length) ∨ x ∈ l.drop (insAt l e.f0 l.length) := by
  rw [← List.mem_append, List.take_append_drop]
 rw [this]
 exact ⟨fun h => by rcases h with h | h | h <;> simp [h], fun h => by rcases h with h | h | h <;> simp [h]⟩
theorem len_putP (l : List S75) (e : S75) : (putP l e).length = l.length + 1 := by
 have := insAt_le l e.f0 l.length
 unfold putP
 rw [List.length_append, List.length_cons, List.length_take, List.length_drop]
 omega
theorem news70 (w : World) (a b c : Int) : ∀ (j : Nat) (u : Value), [Value.int .i64 a, Value.int .i64 b, Value.int .i64 c][j]? = some u → (w.alloc (.cells #[.int .i64 a, .int .i64 b, .int .i64 c] 75)).cell? ((⟨w.heap.size, 0, none⟩ : Addr).add j) = some u :=
 World.news_of_block (cs := #[.int .i64 a, .int .i64 b, .int .i64 c]) (t := 75) (fr := (0, 0)) (heap_alloc_new w _)
theorem cut3 (g n cap m : Nat) (hm : m ≤ n) (hn : n ≤ cap) : ∃ off : Nat, (m < cap → off = m * 3) ∧ (m = cap → off = 0) ∧
  ∀ (x : Int) (W : World), x = (m : Int) → (Instr.slice 72 (.slice (some ⟨g, 0, none⟩) n cap) (some (.int .i64 x)) none none).run Tryz.prog W = .ok (.slice (some ⟨g, off, none⟩) (n - m) (cap - m)) W := by
 have hel : Tryz.prog.elem 72 = 75 := by simp [Program.elem, Tryz.underlying72]
 have hu : Tryz.prog.underlying 72 = some (.slice (Tryz.prog.elem 72)) := by rw [hel]; exact Tryz.underlying72
 obtain ⟨i0, hi0, hz0, hz1, hz2⟩ := info_parts info75
 refine ⟨if m = cap then 0 else m * 3, fun h => if_neg (by omega), fun h => if_pos h, fun x W hx => ?_⟩
 subst hx
 rw [run_slice_l W 72 (some ⟨g, 0, none⟩) n cap hu .i64 (m : Int) (Int.natCast_nonneg _) (by omega), hel]
 by_cases hc : m = cap
 ·subst hc
  simp [sizeOf, typeInfo, hi0, hz1, sliced, Result.andThen]
 ·have hc' : ¬ cap = m := fun e => hc e.symm
  simp [sizeOf, typeInfo, hi0, hz1, sliced, Result.andThen, hc, hc', Addr.add]
  omega
theorem splice3 (l : List S75) (e : S75) (k off : Nat) (hk : k ≤ l.length) (h1 : k < l.length → off = (k + 1) * 3) :
  ∃ L : List S75, L.length = l.length + 1 ∧ (flat3 (l ++ [e])).take off ++ flat3 (l.drop k) ++ (flat3 (l ++ [e])).drop (off + (flat3 (l.drop k)).length) = flat3 L ∧ L.set k e = l.take k ++ e :: l.drop k := by
 rcases Nat.lt_or_ge k l.length with h | h
 ·refine ⟨l.take (k + 1) ++ l.drop k, ?_, ?_, ?_⟩
  ·rw [List.length_append, List.length_take, List.length_drop]; omega
  ·have hd : (flat3 (l ++ [e])).drop ((k + 1) * 3 + (flat3 (l.drop k)).length) = [] := List.drop_eq_nil_of_le (by rw [flat3_len, flat3_len, List.length_append, List.length_drop]; simp; omega)
   rw [h1 h, hd, flat3_take, List.take_append_of_le_length (by omega), List.append_nil, flat3_append]
  ·rw [List.take_succ_eq_append_getElem h, List.append_assoc, List.set_append_right _ _ (by simp; omega)]
   have : k - (l.take k).length = 0 := by simp; omega
   rw [this]
   rfl
 ·obtain rfl : k = l.length := by omega
  refine ⟨l ++ [e], by simp, ?_, ?_⟩
  ·rw [List.drop_length, show flat3 ([] : List S75) = [] from rfl, List.append_nil, List.length_nil, Nat.add_zero, List.take_append_drop]
  ·rw [List.set_append_right _ _ (Nat.le_refl _), List.take_length, List.drop_length, Nat.sub_self]
   rfl
def PutTo (w w' : World) (B : Nat) (v v' : Value) (l : List S75) : Prop := EdgeRow w' B v' l ∧ Only w w' (fun k => v.ownBlock = some k) ∧ ∀ k, k < w.heap.size → v'.ownBlock = some k → v.ownBlock = some k
set_option maxRecDepth 100000 in
set_option maxHeartbeats 4000000 in
theorem hput_walk (w : World) (B : Nat) (v : Value) (l : List S75) (e : S75) (h : EdgeRow w B v l) (hB : B ≤ w.heap.size) (hl : l.length ≤ 100000000) :
  Calls Tryz.prog 33 #[v, .agg #[.int .i64 e.f0, .int .i64 e.f1, .int .i64 e.f2]] w fun r w' => ∃ v', r = .returned v' ∧ PutTo w w' B v v' (putP l e) := by
 obtain ⟨i0, hi0, hz0, hz1, hz2⟩ := info_parts info75
 obtain ⟨a, b, c⟩ := e
 obtain ⟨m, hm⟩ : ∃ m, l.length = m := ⟨_, rfl⟩
 obtain ⟨A, cl, hv, hcl⟩ : ∃ A cl, v = .slice A m cl ∧ m ≤ cl := by
  obtain ⟨A, cl, e1, e2, _⟩ := h.C
  exact ⟨A, cl, by rw [e1, hm], by omega⟩
 subst hv
 obtain ⟨w0, hw0⟩ : ∃ w0, w.alloc (.cells #[.int .i64 a, .int .i64 b, .int .i64 c] 75) = w0 := ⟨_, rfl⟩
 have O0 : Only w w0 (fun _ => False) := by rw [← hw0]; exact (Only.refl _ _).alloc _
 have k0 : w0.heap[w.heap.size]? = some (.cells #[.int .i64 a, .int .i64 b, .int .i64 c] 75 (0, 0)) := by rw [← hw0]; exact blk_new w _
 have HW0 := Lib.hid hw0
 have HE0 : Hid (EdgeRow w0 B (.slice A m cl) l) := Lib.hid (h.only O0 (fun _ _ f => f))
 have HO0 := Lib.hid O0
 have HK0 := Lib.hid k0
 have HM := Lib.hid hm
 have HLT : Hid (∀ k, (Value.slice A m cl).ownBlock = some k → B ≤ k ∧ k < w.heap.size) := Lib.hid (fun k hk => World.ownsRow.lt h k hk)
 have hlm : m ≤ 100000000 := by omega
 have HIN : Hid (insAt l a m = insAt l a l.length) := Lib.hid (by rw [hm])
 clear h hw0 O0 k0 hm hl
 go_enter Tryz.func33, Tryz.ntmps33
 go_wp2_with fail
 rw [HW0.out]
 go_step3
 go_wp2_with fail
 have HOW0 := Lib.hid HE0.out
 clear hcl
 go_step3
 rename_i hK
 refine hK _ _ ?_
 refine wp_seq_k ?_
 intro K0 hK0
 go_cut [5] from 8 to 20 (fun v5 wc => ∃ i : Nat, v5 = .int .i64 i ∧ i ≤ m ∧ Hid (i = insAt l a l.length) ∧ Hid (EdgeRow wc B (.slice A m cl) l) ∧ Hid (Only w wc (fun _ => False)) ∧ Hid (wc.heap[w.heap.size]? = some (.cells #[.int .i64 a, .int .i64 b, .int .i64 c] 75 (0, 0))))
 case first =>
  go_wp2_with fail
  go_loopw [5] (fun v5 wr => ∃ i : Nat, v5 = .int .i64 i ∧ i ≤ m ∧ Hid (insAt l a i = insAt l a l.length) ∧ Hid (EdgeRow wr B (.slice A m cl) l) ∧ Hid (Only w wr (fun _ => False)) ∧ Hid (wr.heap[w.heap.size]? = some (.cells #[.int .i64 a, .int .i64 b, .int .i64 c] 75 (0, 0)))) (fun v5 _ => (intOf v5).toNat)
  case atStart => exact ⟨m, rfl, by omega, HIN, HE0, HO0, HK0⟩
  case round =>
   obtain ⟨i, rfl, hi, HI, HE, HO, HK⟩ := hrel
   have b0 := (blk_cell HK.out 0).trans rfl
   have b1 := (blk_cell HK.out 1).trans rfl
   have b2 := (blk_cell HK.out 2).trans rfl
   have hlt := blk_lt HK.out
   rcases Nat.eq_zero_or_pos i with h0 | h0
   ·subst h0
    go_wp2_with fail
    go_meet
    exact ⟨0, rfl, by omega, Lib.hid HI.out, HE, HO, HK⟩
   ·obtain ⟨j, rfl⟩ : ∃ j, i = j + 1 := ⟨i - 1, by omega⟩
    have hjl : j < l.length := by have := HM.out; omega
    obtain ⟨g, cap, hv, hc⟩ := own_form (show wr.ownsRow B 75 3 (.slice A m cl) l.length (flat3 l) from HE.out) (by omega)
    obtain ⟨rfl, -, rfl⟩ : A = some ⟨g, 0, none⟩ ∧ m = l.length ∧ cl = cap := by simpa using hv
    have hr0 : wr.ownsRow B 75 3 (.slice (some ⟨g, 0, none⟩) l.length cl) l.length (flat3 l) := by have := HE.out; rw [← HM.out] at this; exact this
    have r0 : wr.cell? ⟨g, j * 3, none⟩ = some _ := (hr0.cellAt (j * 3) (by omega)).trans (flat3_get l j hjl).1
    have e1 : ((j + 1 : Nat) : Int) - 1 = (j : Int) := by omega
    have e2 : IntKind.i64.wrap (((j + 1 : Nat) : Int) - 1) = (j : Int) := i64w (by omega) (by omega) (by omega)
    have HJ : Hid (insAt l a (j + 1) = if (rd_T75 l (j : Int)).f0 < a then j + 1 else insAt l a j) := Lib.hid rfl
    generalize (rd_T75 l (j : Int)).f0 = x at *
    clear hv hr0
    by_cases hx : x < a
    ·have hd : decide (x < a) = true := by simpa using hx
     go_wp2_with fail
     all_goals go_quiet (fail)
     all_goals go_wp2_with fail
     go_meet
     exact ⟨j + 1, by go_num, hi, Lib.hid (by rw [← HI.out, HJ.out, if_pos hx]), Lib.hid (HE.out.only ((Only.refl wr (fun _ => False)).drewN _) (fun _ _ f => f)), Lib.hid (HO.out.trans ((Only.refl _ _).drewN _)), Lib.hid HK.out⟩
    ·have hd : decide (x < a) = false := by simpa using hx
     go_wp2_with fail
     all_goals go_quiet (fail)
     all_goals go_wp2_with fail
     go_roundw
     case measure => simp [intOf]
     case rel => exact ⟨j, by go_num, by omega, Lib.hid (by rw [← HI.out, HJ.out, if_neg (by omega)]), Lib.hid (HE.out.only ((Only.refl wr (fun _ => False)).drewN _) (fun _ _ f => f)), Lib.hid (HO.out.trans ((Only.refl _ _).drewN _)), Lib.hid HK.out⟩
 case rest =>
  obtain ⟨k, rfl, hk, HKI, HE, HO, HK⟩ := hcut
  have b0 := (blk_cell HK.out 0).trans rfl
  have b1 := (blk_cell HK.out 1).trans rfl
  have b2 := (blk_cell HK.out 2).trans rfl
  have hlt := blk_lt HK.out
  have HOWN : Hid ((wc.alloc (.cells #[.int .i64 a, .int .i64 b, .int .i64 c] 75)).ownsRow B 75 3 (.slice A m cl) m (flat3 l)) := Lib.hid (by have := HE.out; unfold EdgeRow at this; rw [HM.out] at this; exact this.alloc _)
  go_wp2_with (first | (at_builtin; refine wpList_append_lies _ (by rfl) (.tmp 21) (.tmp 23) 72 (by rfl) B 75 i0 (.agg #[.int .i64 0, .int .i64 0, .int .i64 0]) 3 24 Tryz.underlying72 hi0 hz0 hz1 hz2 rfl (by decide) (.slice A m cl) m (flat3 l) (by rfl) HOWN.out ⟨wc.heap.size, 0, none⟩ 1 1 [.int .i64 a, .int .i64 b, .int .i64 c] (by rfl) (by rfl) (news70 wc a b c) (by simp [Value.oneCell']) (by decide) (by simp only [maxLen]; omega) (by omega) (by simp; omega) (wc.heap.size + 1) (by simp) ?_; intro g cap w1 hown hgrow hat hlt1; have HOWN1 := Lib.hid hown; have HGROW := Lib.hid hgrow; have HAT := Lib.hid hat; clear hown hgrow hat hlt1))
  have HMC : Hid (m + 1 ≤ cap) := Lib.hid (by
   rcases HOWN1.out.2 with ⟨h', _⟩ | ⟨g', cap', cur, h', hb, hg, hnc, hcm, hcs, htake⟩
   ·simp at h'
   ·simp only [Value.slice.injEq, Option.some.injEq, Addr.mk.injEq, and_true, true_and] at h'
    obtain ⟨rfl, rfl⟩ := h'
    exact hnc)
  have hmc := HMC.out
  have f1 : ∀ j, w1.frozen? ⟨g, j, none⟩ = false := HOWN1.out.frozenAt
  clear b0 b1 b2 hlt
  have hgne : w.heap.size ≠ g := by
   rcases HAT.out with h | h
   ·have := (HLT.out _ h).2; omega
   ·have := blk_lt HK.out; omega
  have hgB : B ≤ g := by
   rcases HAT.out with h | h
   ·exact (HLT.out _ h).1
   ·have := blk_lt HK.out; omega
  have O1 : Only wc w1 (fun k => (Value.slice A m cl).ownBlock = some k) := ((Only.refl wc (fun k => (Value.slice A m cl).ownBlock = some k)).alloc _).trans ((Only.of_grown HGROW.out).mono (fun k _ hk _ => hk.symm))
  have HO1 : Hid (Only w w1 (fun k => (Value.slice A m cl).ownBlock = some k)) := Lib.hid ((HO.out.mono (fun _ _ f => f.elim)).trans (O1.mono (fun k _ hk _ => hk)))
  have HK1 : Hid (w1.heap[w.heap.size]? = some (.cells #[.int .i64 a, .int .i64 b, .int .i64 c] 75 (0, 0))) := Lib.hid ((O1.block _ (blk_lt HK.out) (fun e => by have := (HLT.out _ e).2; omega)).trans HK.out)
  clear O1
  have hk1 : (k : Int) + 1 ≤ (m : Int) + 1 := by omega
  have hw : IntKind.i64.wrap ((k : Int) + 1) = (k : Int) + 1 := i64w (by omega) (by omega) (by omega)
  have hw2 : IntKind.i64.wrap ((k : Int) + 1) = ((k + 1 : Nat) : Int) := i64w (by omega) (by omega) (by omega)
  obtain ⟨off1, hof1, hof1', hs1'⟩ := cut3 g (m + 1) cap (k + 1) (by omega) hmc
  obtain ⟨off2, hof2, _, hs2'⟩ := cut3 g (m + 1) cap k (by omega) hmc
  obtain rfl := hof2 (by omega)
  have hs1 := fun W => hs1' ((k : Int) + 1) W (by omega)
  have hs2 := fun W => hs2' (k : Int) W rfl
  have hfit1 : off1 + (m - k) * 3 ≤ (m + 1) * 3 := by
   rcases Nat.lt_or_ge (k + 1) cap with h | h
   ·have := hof1 h; omega
   ·have := hof1' (by omega); omega
  have HOF : Hid (k < m → off1 = (k + 1) * 3) := Lib.hid (fun h => hof1 (by omega))
  clear f1 hof1 hof1' hs1' hs2'
  go_still_tail 7, (by kernel_rfl)
  change wpList _ _ _ _ _ w1.drew
  have HOWN2 : Hid (w1.drew.ownsRow B 75 3 (.slice (some ⟨g, 0, none⟩) (m + 1) cap) (m + 1) (flat3 (l ++ [⟨a, b, c⟩]))) := Lib.hid (by
   have h1 := own_only HOWN1.out ((Only.refl w1 (fun _ => False)).drew) (fun _ _ f => f)
   rw [flat3_append]; exact h1)
  have HO2 : Hid (Only w w1.drew (fun k => (Value.slice A m cl).ownBlock = some k)) := Lib.hid (HO1.out.trans ((Only.refl w1 _).drew))
  have HK2 : Hid (w1.drew.heap[w.heap.size]? = some (.cells #[.int .i64 a, .int .i64 b, .int .i64 c] 75 (0, 0))) := Lib.hid HK1.out
  generalize w1.drew = w2 at HOWN2 HO2 HK2 ⊢
  clear HOWN1 HGROW HO1 HK1
  have hdl : (flat3 (l.drop k)).length = (m - k) * 3 := by rw [flat3_len, List.length_drop, HM.out]
  obtain ⟨cur, hg, hle, htk, hown, hon⟩ := own_splice HOWN2.out off1 (flat3 (l.drop k)) (by rw [hdl]; exact hfit1)
  obtain ⟨L, hL0, hL1, hL2⟩ := splice3 l ⟨a, b, c⟩ k off1 (by rw [HM.out]; exact hk) (by rw [HM.out]; exact HOF.out)
  rw [hL1] at hown
  have hsrc : ∀ j v, (flat3 (l.drop k))[j]? = some v → w2.cell? ((⟨g, k * 3, none⟩ : Addr).add j) = some v := by
   intro j v hj
   have hjl := (List.getElem?_eq_some_iff.1 hj).1
   have e1 : (⟨g, k * 3, none⟩ : Addr).add j = ⟨g, k * 3 + j, none⟩ := by unfold Addr.add; split <;> simp_all
   rw [e1, HOWN2.out.cellAt (k * 3 + j) (by omega), flat3_append, List.getElem?_append_left (by rw [flat3_len, HM.out]; omega), ← List.getElem?_drop, flat3_drop]
   exact hj
  refine wpList_copyN (by rfl) (.tmp 28) (.tmp 31) 72 72 (by rfl) 75 i0 Tryz.underlying72 hi0 g off1 (m - k) (cap - (k + 1)) ⟨g, k * 3, none⟩ (m + 1 - k) (cap - k) (by rfl) (by rfl) cur 75 hg (flat3 (l.drop k)) (by rw [hdl, hz1]; congr 1; show m - k = Nat.min _ _; simp only [Nat.min_def]; split <;> omega) hsrc (by omega) (flat3_one _) ?_
  have HR3 := Lib.hid hown
  have HO3 := Lib.hid hon
  have HL := Lib.hid hL0
  have HL2 := Lib.hid hL2
  generalize w2.setRow g (cur.toList.take off1 ++ flat3 (l.drop k) ++ cur.toList.drop (off1 + (flat3 (l.drop k)).length)).toArray = w3 at HR3 HO3 ⊢
  clear hown hon hL0 hL1 hL2 hsrc hg hle htk hdl hs1 hs2 hfit1
  have HK3 := Lib.hid ((HO3.out.block _ (blk_lt HK2.out) hgne).trans HK2.out)
  have b0 := (blk_cell HK3.out 0).trans rfl
  have b1 := (blk_cell HK3.out 1).trans rfl
  have b2 := (blk_cell HK3.out 2).trans rfl
  have r0 : w3.cell? ⟨g, k * 3, none⟩ = some _ := (HR3.out.cellAt (k * 3) (by omega)).trans (flat3_get L k (by have := HL.out; have := HM.out; omega)).1
  have r1 : w3.cell? ⟨g, k * 3 + 1, none⟩ = some _ := (HR3.out.cellAt (k * 3 + 1) (by omega)).trans (flat3_get L k (by have := HL.out; have := HM.out; omega)).2.1
  have r2 : w3.cell? ⟨g, k * 3 + 2, none⟩ = some _ := (HR3.out.cellAt (k * 3 + 2) (by omega)).trans (flat3_get L k (by have := HL.out; have := HM.out; omega)).2.2
  have fz : ∀ j, w3.frozen? ⟨g, j, none⟩ = false := HR3.out.frozenAt
  have hkm : (k : Int) < (m : Int) + 1 := by omega
  have hk0 : (0 : Int) ≤ (k : Int) := Int.natCast_nonneg _
  go_wp2_with fail
  go_ret
  have t0 := World.ownsRow.stored HR3.out (k * 3) (.int .i64 a)
  have t1 := World.ownsRow.stored t0.1 (k * 3 + 1) (.int .i64 b)
  have t2 := World.ownsRow.stored t1.1 (k * 3 + 2) (.int .i64 c)
  have hput : putP l ⟨a, b, c⟩ = L.set k ⟨a, b, c⟩ := by rw [HL2.out, HKI.out]; rfl
  refine ⟨_, rfl, ?_, ?_, ?_⟩
  ·unfold EdgeRow
   rw [len_putP, HM.out, hput, flat3_set]
   exact t2.1
  ·have O4 : Only w3 (((w3.setCell ⟨g, k * 3, none⟩ (.int .i64 a)).setCell ⟨g, k * 3 + 1, none⟩ (.int .i64 b)).setCell ⟨g, k * 3 + 2, none⟩ (.int .i64 c)) (fun j => j = g) := (((Only.refl w3 (fun j => j = g)).cell g _ _ rfl).cell g _ _ rfl).cell g _ _ rfl
   have gone : ∀ j, j = g → j < w.heap.size → (Value.slice A m cl).ownBlock = some j := fun j e hj => by
    subst e
    rcases HAT.out with h | h
    ·exact h
    ·have := blk_lt HK.out; omega
   exact (HO2.out.trans (HO3.out.mono (fun j _ e hj => gone j e hj))).trans (O4.mono (fun j _ e hj => gone j e hj))
  ·intro j hj hv
   have e : g = j := by simpa [Value.ownBlock] using hv
   subst e
   rcases HAT.out with h | h
   ·exact h
   ·have := blk_lt HK.out; omega
def updB {α : Type} (f : Bool → α) (b : Bool) (x : α) : Bool → α := fun c => if c = b then x else f c
theorem updB_same {α : Type} (f : Bool → α) (b : Bool) (x : α) : updB f b x b = x := if_pos rfl
theorem updB_ne {α : Type} (f : Bool → α) {b c : Bool} (x : α) (h : c ≠ b) : updB f b x c = f c := if_neg h
structure Two (w : World) (Bo Be : Nat) (G : Bool → Nat) (n : Nat) (V : Bool → List Value) (P : Bool → List (List S75)) : Prop where
 own : ∀ b, w.ownsRow Bo 72 1 (.slice (some ⟨G b, 0, none⟩) n n) n (V b)
 ne : ∀ b c, b ≠ c → G b ≠ G c
 len : ∀ b, (P b).length = n
 row : ∀ b j, j < n → EdgeRow w Be ((V b).getD j (.slice none 0 0)) ((P b).getD j [])
 apart : ∀ b c i j, i < n → j < n → (b, i) ≠ (c, j) → ∀ k, ((V b).getD i (.slice none 0 0)).ownBlock = some k → ((V c).getD j (.slice none 0 0)).ownBlock ≠ some k
theorem Two.vlen {w : World} {Bo Be n : Nat} {G : Bool → Nat} {V : Bool → List Value} {P : Bool → List (List S75)} (h : Two w Bo Be G n V P) (b : Bool) : (V b).length = n := by
 have := (h.own b).1
 omega
theorem Two.only {w w1 : World} {S : Nat → Prop} {Bo Be n : Nat} {G : Bool → Nat} {V : Bool → List Value} {P : Bool → List (List S75)} (h : Two w Bo Be G n V P) (g : Only w w1 S) (hs : ∀ b, ¬ S (G b)) (hs2 : ∀ k, Be ≤ k → ¬ S k) : Two w1 Bo Be G n V P :=
 ⟨fun b => own_only (h.own b) g (fun k hk => by cases hk; exact hs b), h.ne, h.len, fun b j hj => (h.row b j hj).only g (fun k hk => hs2 k (World.ownsRow.lt (h.row b j hj) k hk).1), h.apart⟩
theorem getD_set_same {α : Type} (l : List α) (j : Nat) (x d : α) (h : j < l.length) : (l.set j x).getD j d = x := by simp [List.getD, h]
theorem getD_set_ne' {α : Type} (l : List α) (i j : Nat) (x d : α) (h : i ≠ j) : (l.set j x).getD i d = l.getD i d := by simp [List.getD, h.symm]
theorem Two.cellOf {w : World} {Bo Be n : Nat} {G : Bool → Nat} {V : Bool → List Value} {P : Bool → List (List S75)} (h : Two w Bo Be G n V P) (b : Bool) (j : Nat) (hj : j < n) :
  w.cell? ⟨G b, j, none⟩ = some ((V b).getD j (.slice none 0 0)) ∧ w.frozen? ⟨G b, j, none⟩ = false ∧ G b < w.heap.size := by
 have hv := h.vlen b
 refine ⟨?_, World.ownsRow.frozenAt (h.own b) j, (World.ownsRow.lt (h.own b) _ rfl).2⟩
 rw [World.ownsRow.cellAt (h.own b) j (by omega)]
 simp [List.getD, hv, hj]
theorem Two.put {w w1 : World} {Bo Be n : Nat} {G : Bool → Nat} {V : Bool → List Value} {P : Bool → List (List S75)} (h : Two w Bo Be G n V P) (b : Bool) (j : Nat) (hj : j < n) (v' : Value) (l' : List S75)
  (hE : EdgeRow w1 Be v' l') (hO : Only w w1 (fun k => ((V b).getD j (.slice none 0 0)).ownBlock = some k)) (hK : ∀ k, k < w.heap.size → v'.ownBlock = some k → ((V b).getD j (.slice none 0 0)).ownBlock = some k) :
  Two (w1.setCell ⟨G b, j, none⟩ v') Bo Be G n (updB V b ((V b).set j v')) (updB P b ((P b).set j l')) := by
 have tG : ∀ c, ∃ cur, w.heap[G c]? = some (.cells cur 72 (0, 0)) := fun c => own_blk (h.own c)
 have nG : ∀ c i, i < n → ((V b).getD i (.slice none 0 0)).ownBlock ≠ some (G c) := fun c i hi e => by
  obtain ⟨cells, hc⟩ := own_typed (h.row b i hi) _ e
  obtain ⟨cur, hg⟩ := tG c
  exact ne_typed hc hg (by decide) rfl
 have nG' : ∀ d c i, i < n → ((V d).getD i (.slice none 0 0)).ownBlock ≠ some (G c) := fun d c i hi e => by
  obtain ⟨cells, hc⟩ := own_typed (h.row d i hi) _ e
  obtain ⟨cur, hg⟩ := tG c
  exact ne_typed hc hg (by decide) rfl
 have own1 : ∀ c, w1.ownsRow Bo 72 1 (.slice (some ⟨G c, 0, none⟩) n n) n (V c) := fun c => own_only (h.own c) hO (fun k hk e => by cases hk; exact nG c j hj e)
 have tG1 : ∀ c, ∃ cur, w1.heap[G c]? = some (.cells cur 72 (0, 0)) := fun c => own_blk (own1 c)
 have nv : ∀ c, v'.ownBlock ≠ some (G c) := fun c e => by
  obtain ⟨cells, hc⟩ := own_typed hE _ e
  obtain ⟨cur, hg⟩ := tG1 c
  exact ne_typed hc hg (by decide) rfl
 have O2 : Only w1 (w1.setCell ⟨G b, j, none⟩ v') (fun k => k = G b) := (Only.refl w1 (fun k => k = G b)).cell _ _ _ rfl
 have hvl := h.vlen b
 refine ⟨fun c => ?_, h.ne, fun c => ?_, fun c i hi => ?_, fun c d i i' hi hi' hne k hk => ?_⟩
 ·by_cases e : c = b
  ·subst e
   rw [updB_same]
   exact (World.ownsRow.stored (own1 c) j v').1
  ·rw [updB_ne _ _ e]
   exact own_only (own1 c) O2 (fun k hk e' => by cases hk; exact h.ne c b e e')
 ·by_cases e : c = b
  ·subst e; rw [updB_same, List.length_set]; exact h.len c
  ·rw [updB_ne _ _ e]; exact h.len c
 ·by_cases e : c = b
  ·subst e
   rw [updB_same, updB_same]
   by_cases e2 : i = j
   ·subst e2
    rw [getD_set_same _ _ _ _ (by omega), getD_set_same _ _ _ _ (by rw [h.len]; exact hi)]
    exact hE.only O2 (fun k hk e' => nv c (by rw [hk, e']))
   ·rw [getD_set_ne' _ _ _ _ _ e2, getD_set_ne' _ _ _ _ _ e2]
    exact ((h.row c i hi).only hO (fun k hk e' => h.apart c c i j hi hj (by simpa using e2) k hk e')).only O2 (fun k hk e' => nG' c c i hi (by rw [hk, e']))
  ·rw [updB_ne _ _ e, updB_ne _ _ e]
   exact ((h.row c i hi).only hO (fun k hk e' => h.apart c b i j hi hj (by simp [e]) k hk e')).only O2 (fun k hk e' => nG' c b i hi (by rw [hk, e']))
 ·have val : ∀ c i, i < n → ((c, i) = (b, j) ∧ (updB V b ((V b).set j v') c).getD i (.slice none 0 0) = v') ∨ ((c, i) ≠ (b, j) ∧ (updB V b ((V b).set j v') c).getD i (.slice none 0 0) = (V c).getD i (.slice none 0 0)) := fun c i hi => by
   by_cases e : c = b
   ·subst e
    rw [updB_same]
    by_cases e2 : i = j
    ·subst e2; exact .inl ⟨rfl, getD_set_same _ _ _ _ (by omega)⟩
    ·exact .inr ⟨by simpa using e2, getD_set_ne' _ _ _ _ _ e2⟩
   ·rw [updB_ne _ _ e]
    exact .inr ⟨by simp [e], rfl⟩
  rcases val c i hi with ⟨e1, e2⟩ | ⟨e1, e2⟩ <;> rcases val d i' hi' with ⟨f1, f2⟩ | ⟨f1, f2⟩
  ·exact absurd (e1.trans f1.symm) hne
  ·rw [e2] at hk
   rw [f2]
   intro f3
   have hlt := (World.ownsRow.lt (h.row d i' hi') k f3).2
   exact h.apart b d j i' hj hi' (fun e => f1 e.symm) k (hK k hlt hk) f3
  ·rw [e2] at hk
   rw [f2]
   intro f3
   have hlt := (World.ownsRow.lt (h.row c i hi) k hk).2
   exact h.apart c b i j hi hj e1 k hk (hK k hlt f3)
  ·rw [e2] at hk
   rw [f2]
   exact h.apart c d i i' hi hi' hne k hk
theorem Two.C {w : World} {Bo Be n : Nat} {G : Bool → Nat} {V : Bool → List Value} {P : Bool → List (List S75)} (h : Two w Bo Be G n V P) (b : Bool) (hn : n ≤ 1000000) : Kd.C (Kd.slice 75 k75) w (some ⟨G b, 0, none⟩) n (P b) := by
 refine ⟨h.len b, by omega, fun _ => ⟨_, rfl, fun j p hj => ?_⟩⟩
 have hlt : j < n := by
  have := (List.getElem?_eq_some_iff.1 hj).1
  rw [h.len b] at this
  exact this
 have hp : (P b).getD j [] = p := by simp [List.getD, hj]
 have hr := h.row b j hlt
 rw [hp] at hr
 obtain ⟨A, c, e1, e2, e3⟩ := hr.C
 refine ⟨[(V b).getD j (.slice none 0 0)], rfl, ⟨A, c, by rw [e1], e2, e3⟩, fun i u hu => ?_⟩
 have hi0 : i = 0 := by
  have := (List.getElem?_eq_some_iff.1 hu).1
  simpa using this
 subst hi0
 have hu' : (V b).getD j (.slice none 0 0) = u := by simpa using hu
 rw [← hu']
 have ea : (⟨G b, 0, none⟩ : Addr).add (j * (Kd.slice 75 k75).sz + 0) = ⟨G b, j, none⟩ := by
  rw [show (Kd.slice 75 k75).sz = 1 from rfl]
  unfold Addr.add
  by_cases e : j = 0 <;> simp [e]
 rw [ea]
 exact (h.cellOf b j hlt).1
def stepB (rank : List Int) (P : Bool → List (List S75)) (i : Nat) (e : S71) : Bool → List (List S75) :=
 if rd rank e.f0 < rd rank e.f1 then updB P true ((P true).set e.f0.toNat (putP ((P true).getD e.f0.toNat []) ⟨e.f1, e.f2.f0, i⟩))
 else updB P false ((P false).set e.f1.toNat (putP ((P false).getD e.f1.toNat []) ⟨e.f0, e.f2.f0, i⟩))
def buildB (rank : List Int) (ways : List S71) (n : Nat) : Nat → Bool → List (List S75)
 | 0 => fun _ => List.replicate n []
 | i + 1 => stepB rank (buildB rank ways n i) i (rd_T71 ways (i : Int))
end Go.Proofs.YtfkejflmhidnaaaGreat.PAll
