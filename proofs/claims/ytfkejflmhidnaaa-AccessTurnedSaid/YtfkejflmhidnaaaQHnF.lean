import Derived.Test.YtfkejflmhidnaaaQHnD
import Derived.Laws.CopyOwn
namespace Go.Proofs.Ytfkejflmhidnaaa.PAll
open Go.RowKit Go.Proofs.YtfkejflmhidnaaaW.PrintWords Go.Proofs.YtfkejflmhidnaaaW.PrintLast Go.Proofs.YtfkejflmhidnaaaW.PrintMore
open Hp hiding Good
set_option linter.unusedVariables false
set_option linter.unusedSimpArgs false

/-- copy, of elements of so many cells -/
theorem run_copyN {P : Program} (w : World) (dT sT ty elem : TypeId) (i : TypeInfo) (g o dLen dCap : Nat) (a : Addr) (sLen sCap : Nat) (cur : Array Value) (t : TypeId) (cs : List Value)
    (hu : P.underlying dT = some (.slice elem)) (hi : P.info? elem = some i)
    (hg : w.heap[g]? = some (.cells cur t (0, 0))) (hn : cs.length = Nat.min sLen dLen * i.size)
    (hsrc : ∀ j v, cs[j]? = some v → w.cell? (a.add j) = some v) (hfit : o + cs.length ≤ cur.size) (h1 : ∀ v ∈ cs, v.oneCell' = true) :
    (Builtin.copy_ #[dT, sT] ty #[.slice (some ⟨g, o, none⟩) dLen dCap, .slice (some a) sLen sCap]).run P w =
      .ok (goInt (Nat.min sLen dLen)) (w.setRow g (cur.toList.take o ++ cs ++ cur.toList.drop (o + cs.length)).toArray) := by
  have hl := run_firstCells_some (P := P) w i.size (Nat.min sLen dLen) a sLen sCap cs hn hsrc
  have hst := run_storeCells_at P g o t cs 0 cur w hg (by simpa using hfit) h1
  simp only [Nat.add_zero] at hst
  simp [Builtin.copy_, run_underlying hu, Builtin.lenOf, sizeOf, typeInfo, hi, hl, hst]

theorem wpList_copyN {P : Program} {w : World} {ops : Array Oper} {rest : List Oper} {o : Oper} {a : Act} {Q : Exit → Act → World → Prop} (hgd : o.guard = none) (d s : Operand) (dT sT : TypeId)
    (ho : o.op = .call { callee := .builtin .copy, args := #[d, s], argTypes := #[dT, sT] }) (elem : TypeId) (i : TypeInfo) (hu : P.underlying dT = some (.slice elem)) (hi : P.info? elem = some i)
    (g off dLen dCap : Nat) (ad : Addr) (sLen sCap : Nat) (hd : a.eval d = .slice (some ⟨g, off, none⟩) dLen dCap) (hs : a.eval s = .slice (some ad) sLen sCap)
    (cur : Array Value) (t : TypeId) (hg : w.heap[g]? = some (.cells cur t (0, 0))) (cs : List Value) (hn : cs.length = Nat.min sLen dLen * i.size)
    (hsrc : ∀ j v, cs[j]? = some v → w.cell? (ad.add j) = some v) (hfit : off + cs.length ≤ cur.size) (h1 : ∀ v ∈ cs, v.oneCell' = true)
    (h : wpList P ops Q rest (a.put o.dst (goInt (Nat.min sLen dLen))) (w.setRow g (cur.toList.take off ++ cs ++ cur.toList.drop (off + cs.length)).toArray)) :
    wpList P ops Q (o :: rest) a w := by
  refine wpList_plain hgd fun K' hK' => ?_
  have hrun := run_copyN (P := P) w dT sT o.type elem i g off dLen dCap ad sLen sCap cur t cs hu hi hg hn hsrc hfit h1
  unfold Oper.wp execOp
  simp only [ho, resolve, invoke, builtin, Sem.run_bind, Sem.run_pure, Result.andThen_ok, List.map_toArray, List.map_cons, List.map_nil, hd, hs, hrun]
  exact hK' _ _ h

/-- behind a copy into a row of the call's own -/
theorem own_splice {w : World} {B e sz g n cap : Nat} {xs : List Value} (h : w.ownsRow B e sz (.slice (some ⟨g, 0, none⟩) n cap) n xs) (off : Nat) (cs : List Value) (hfit : off + cs.length ≤ n * sz) :
    ∃ cur, w.heap[g]? = some (.cells cur e (0, 0)) ∧ n * sz ≤ cur.size ∧ cur.toList.take (n * sz) = xs ∧
      (w.setRow g (cur.toList.take off ++ cs ++ cur.toList.drop (off + cs.length)).toArray).ownsRow B e sz (.slice (some ⟨g, 0, none⟩) n cap) n (xs.take off ++ cs ++ xs.drop (off + cs.length)) ∧
      Only w (w.setRow g (cur.toList.take off ++ cs ++ cur.toList.drop (off + cs.length)).toArray) (fun k => k = g) := by
  obtain ⟨h1, h2⟩ := h
  rcases h2 with ⟨h', _⟩ | ⟨g', cap', cur, h', hb, hg, hnc, hcm, hcs, htake⟩
  · simp at h'
  · simp only [Value.slice.injEq, Option.some.injEq, Addr.mk.injEq, and_true, true_and] at h'
    obtain ⟨rfl, rfl⟩ := h'
    have hle : n * sz ≤ cur.size := by rw [hcs]; exact Nat.mul_le_mul_right _ hnc
    have hcl : cur.toList.length = cur.size := Array.length_toList
    refine ⟨cur, hg, hle, htake, ⟨?_, .inr ⟨g, cap, _, rfl, hb, setRow_heap w g cur _ e _ hg, hnc, hcm, ?_, ?_⟩⟩, ⟨rfl, rfl, rfl, by simp, fun k _ hk => setRow_other w g k _ hk⟩⟩
    · simp only [List.length_append, List.length_take, List.length_drop]; omega
    · simp only [List.size_toArray, List.length_append, List.length_take, List.length_drop]; omega
    · simp only
      rw [← htake]
      rw [← hcl] at hle
      generalize cur.toList = C at *
      have e1 : (C.take off ++ cs).length = off + cs.length := by simp only [List.length_append, List.length_take]; omega
      rw [List.take_append, List.take_of_length_le (by omega), e1, List.take_take, Nat.min_eq_left (by omega), List.drop_take]

/-- edges, as they lie in memory -/
def flat3 (l : List S70) : List Value := l.flatMap fun e => [.int .i64 e.f0, .int .i64 e.f1, .int .i64 e.f2]
theorem flat3_cons (e : S70) (l : List S70) : flat3 (e :: l) = .int .i64 e.f0 :: .int .i64 e.f1 :: .int .i64 e.f2 :: flat3 l := rfl
theorem flat3_append (l m : List S70) : flat3 (l ++ m) = flat3 l ++ flat3 m := by simp [flat3]
theorem flat3_len : ∀ l : List S70, (flat3 l).length = l.length * 3
  | [] => rfl
  | e :: l => by
    rw [flat3_cons]
    simp only [List.length_cons, flat3_len l]
    omega
theorem flat3_take : ∀ (l : List S70) (k : Nat), (flat3 l).take (k * 3) = flat3 (l.take k)
  | [], k => by simp [flat3]
  | e :: l, 0 => by simp [flat3]
  | e :: l, k + 1 => by
    rw [List.take_succ_cons, flat3_cons, flat3_cons, show (k + 1) * 3 = k * 3 + 1 + 1 + 1 by omega, List.take_succ_cons, List.take_succ_cons, List.take_succ_cons, flat3_take l k]
theorem flat3_drop : ∀ (l : List S70) (k : Nat), (flat3 l).drop (k * 3) = flat3 (l.drop k)
  | [], k => by simp [flat3]
  | e :: l, 0 => by simp
  | e :: l, k + 1 => by
    rw [List.drop_succ_cons, flat3_cons, show (k + 1) * 3 = k * 3 + 1 + 1 + 1 by omega, List.drop_succ_cons, List.drop_succ_cons, List.drop_succ_cons, flat3_drop l k]
theorem flat3_one (l : List S70) : ∀ v ∈ flat3 l, v.oneCell' = true := by
  intro v hv
  obtain ⟨e, _, he⟩ := List.mem_flatMap.1 hv
  simp only [List.mem_cons, List.not_mem_nil, or_false] at he
  rcases he with rfl | rfl | rfl <;> rfl
theorem flat3_get : ∀ (l : List S70) (i : Nat), i < l.length → (flat3 l)[i * 3]? = some (.int .i64 (rd_T70 l i).f0) ∧ (flat3 l)[i * 3 + 1]? = some (.int .i64 (rd_T70 l i).f1) ∧ (flat3 l)[i * 3 + 2]? = some (.int .i64 (rd_T70 l i).f2)
  | e :: l, 0, _ => ⟨rfl, rfl, rfl⟩
  | e :: l, i + 1, h => by
    have := flat3_get l i (by simpa using h)
    have e1 : rd_T70 (e :: l) ((i + 1 : Nat) : Int) = rd_T70 l (i : Int) := by simp [rd_T70]
    rw [e1, flat3_cons, show (i + 1) * 3 = i * 3 + 1 + 1 + 1 by omega]
    simpa using this
theorem flat3_set : ∀ (l : List S70) (i : Nat) (e : S70), flat3 (l.set i e) = (((flat3 l).set (i * 3) (.int .i64 e.f0)).set (i * 3 + 1) (.int .i64 e.f1)).set (i * 3 + 2) (.int .i64 e.f2)
  | [], i, e => by simp [flat3]
  | d :: l, 0, e => rfl
  | d :: l, i + 1, e => by
    have := flat3_set l i e
    rw [List.set_cons_succ, flat3_cons, flat3_cons, this, show (i + 1) * 3 = i * 3 + 1 + 1 + 1 by omega]
    rfl

/-- a row of edges that is owned -/
def EdgeRow (w : World) (B : Nat) (v : Value) (l : List S70) : Prop := w.ownsRow B 70 3 v l.length (flat3 l)
theorem EdgeRow.only {w w' : World} {S : Nat → Prop} {B : Nat} {v : Value} {l : List S70} (h : EdgeRow w B v l) (g : Only w w' S) (hs : ∀ k, v.ownBlock = some k → ¬ S k) : EdgeRow w' B v l := own_only h g hs
theorem EdgeRow.R {w : World} {B : Nat} {v : Value} {l : List S70} (h : EdgeRow w B v l) : Kd.R k70 70 w B (fun _ => True) v l := by
  refine ⟨fun _ _ => trivial, flat3 l, h, flat3_len l, fun j p hj => ?_⟩
  rw [show k70.sz = 3 from rfl, flat3_drop]
  obtain ⟨hlt, rfl⟩ := List.getElem?_eq_some_iff.1 hj
  rw [List.drop_eq_getElem_cons hlt, flat3_cons]
  exact k70_mkM _ _ _ _
theorem EdgeRow.C {w : World} {B : Nat} {v : Value} {l : List S70} (h : EdgeRow w B v l) : ∃ A c, v = .slice A l.length c ∧ l.length ≤ c ∧ Kd.C k70 w A l.length l := Kd.R_reads h.R

/-- where an edge goes in -/
def insAt (l : List S70) (x : Int) : Nat → Nat
  | 0 => 0
  | i + 1 => if (rd_T70 l (i : Int)).f0 < x then i + 1 else insAt l x i
theorem insAt_le (l : List S70) (x : Int) : ∀ i, insAt l x i ≤ i
  | 0 => Nat.le_refl _
  | i + 1 => by
    rw [insAt]
    split
    · exact Nat.le_refl _
    · have := insAt_le l x i; omega
def putP (l : List S70) (e : S70) : List S70 := l.take (insAt l e.f0 l.length) ++ e :: l.drop (insAt l e.f0 l.length)
theorem mem_putP (l : List S70) (e x : S70) : x ∈ putP l e ↔ x = e ∨ x ∈ l := by
  unfold putP
  rw [List.mem_append, List.mem_cons]
  have : x ∈ l ↔ x ∈ l.take (insAt l e.f0 l.length) ∨ x ∈ l.drop (insAt l e.f0 l.length) := by
    rw [← List.mem_append, List.take_append_drop]
  rw [this]
  exact ⟨fun h => by rcases h with h | h | h <;> simp [h], fun h => by rcases h with h | h | h <;> simp [h]⟩
theorem len_putP (l : List S70) (e : S70) : (putP l e).length = l.length + 1 := by
  have := insAt_le l e.f0 l.length
  unfold putP
  rw [List.length_append, List.length_cons, List.length_take, List.length_drop]
  omega
end Go.Proofs.Ytfkejflmhidnaaa.PAll

namespace Go.Proofs.Ytfkejflmhidnaaa.PAll
open Go.RowKit Go.Proofs.YtfkejflmhidnaaaW.PrintWords Go.Proofs.YtfkejflmhidnaaaW.PrintLast Go.Proofs.YtfkejflmhidnaaaW.PrintMore
open Hp hiding Good
set_option linter.unusedVariables false
set_option linter.unusedSimpArgs false

theorem news70 (w : World) (a b c : Int) : ∀ (j : Nat) (u : Value), [Value.int .i64 a, Value.int .i64 b, Value.int .i64 c][j]? = some u → (w.alloc (.cells #[.int .i64 a, .int .i64 b, .int .i64 c] 70)).cell? ((⟨w.heap.size, 0, none⟩ : Addr).add j) = some u :=
  World.news_of_block (cs := #[.int .i64 a, .int .i64 b, .int .i64 c]) (t := 70) (fr := (0, 0)) (heap_alloc_new w _)

/-- a cut of a row of edges -/
theorem cut3 (g n cap m : Nat) (hm : m ≤ n) (hn : n ≤ cap) : ∃ off : Nat, (m < cap → off = m * 3) ∧ (m = cap → off = 0) ∧
    ∀ (x : Int) (W : World), x = (m : Int) → (Instr.slice 67 (.slice (some ⟨g, 0, none⟩) n cap) (some (.int .i64 x)) none none).run Try.prog W = .ok (.slice (some ⟨g, off, none⟩) (n - m) (cap - m)) W := by
  have hel : Try.prog.elem 67 = 70 := by simp [Program.elem, Try.underlying67]
  have hu : Try.prog.underlying 67 = some (.slice (Try.prog.elem 67)) := by rw [hel]; exact Try.underlying67
  obtain ⟨i0, hi0, hz0, hz1, hz2⟩ := info_parts info70
  refine ⟨if m = cap then 0 else m * 3, fun h => if_neg (by omega), fun h => if_pos h, fun x W hx => ?_⟩
  subst hx
  rw [run_slice_l W 67 (some ⟨g, 0, none⟩) n cap hu .i64 (m : Int) (Int.natCast_nonneg _) (by omega), hel]
  by_cases hc : m = cap
  · subst hc
    simp [sizeOf, typeInfo, hi0, hz1, sliced, Result.andThen]
  · have hc' : ¬ cap = m := fun e => hc e.symm
    simp [sizeOf, typeInfo, hi0, hz1, sliced, Result.andThen, hc, hc', Addr.add]
    omega

theorem splice3 (l : List S70) (e : S70) (k off : Nat) (hk : k ≤ l.length) (h1 : k < l.length → off = (k + 1) * 3) :
    ∃ L : List S70, L.length = l.length + 1 ∧ (flat3 (l ++ [e])).take off ++ flat3 (l.drop k) ++ (flat3 (l ++ [e])).drop (off + (flat3 (l.drop k)).length) = flat3 L ∧ L.set k e = l.take k ++ e :: l.drop k := by
  rcases Nat.lt_or_ge k l.length with h | h
  · refine ⟨l.take (k + 1) ++ l.drop k, ?_, ?_, ?_⟩
    · rw [List.length_append, List.length_take, List.length_drop]; omega
    · have hd : (flat3 (l ++ [e])).drop ((k + 1) * 3 + (flat3 (l.drop k)).length) = [] := List.drop_eq_nil_of_le (by rw [flat3_len, flat3_len, List.length_append, List.length_drop]; simp; omega)
      rw [h1 h, hd, flat3_take, List.take_append_of_le_length (by omega), List.append_nil, flat3_append]
    · rw [List.take_succ_eq_append_getElem h, List.append_assoc, List.set_append_right _ _ (by simp; omega)]
      have : k - (l.take k).length = 0 := by simp; omega
      rw [this]
      rfl
  · obtain rfl : k = l.length := by omega
    refine ⟨l ++ [e], by simp, ?_, ?_⟩
    · rw [List.drop_length, show flat3 ([] : List S70) = [] from rfl, List.append_nil, List.length_nil, Nat.add_zero, List.take_append_drop]
    · rw [List.set_append_right _ _ (Nat.le_refl _), List.take_length, List.drop_length, Nat.sub_self]
      rfl

/-- what put leaves -/
def PutTo (w w' : World) (B : Nat) (v v' : Value) (l : List S70) : Prop := EdgeRow w' B v' l ∧ Only w w' (fun k => v.ownBlock = some k) ∧ ∀ k, k < w.heap.size → v'.ownBlock = some k → v.ownBlock = some k

set_option maxRecDepth 100000 in
set_option maxHeartbeats 4000000 in
theorem hput_walk (w : World) (B : Nat) (v : Value) (l : List S70) (e : S70) (h : EdgeRow w B v l) (hB : B ≤ w.heap.size) (hl : l.length ≤ 100000000) :
    Calls Try.prog 32 #[v, .agg #[.int .i64 e.f0, .int .i64 e.f1, .int .i64 e.f2]] w fun r w' => ∃ v', r = .returned v' ∧ PutTo w w' B v v' (putP l e) := by
  obtain ⟨i0, hi0, hz0, hz1, hz2⟩ := info_parts info70
  obtain ⟨a, b, c⟩ := e
  obtain ⟨m, hm⟩ : ∃ m, l.length = m := ⟨_, rfl⟩
  obtain ⟨A, cl, hv, hcl⟩ : ∃ A cl, v = .slice A m cl ∧ m ≤ cl := by
    obtain ⟨A, cl, e1, e2, _⟩ := h.C
    exact ⟨A, cl, by rw [e1, hm], by omega⟩
  subst hv
  obtain ⟨w0, hw0⟩ : ∃ w0, w.alloc (.cells #[.int .i64 a, .int .i64 b, .int .i64 c] 70) = w0 := ⟨_, rfl⟩
  have O0 : Only w w0 (fun _ => False) := by rw [← hw0]; exact (Only.refl _ _).alloc _
  have k0 : w0.heap[w.heap.size]? = some (.cells #[.int .i64 a, .int .i64 b, .int .i64 c] 70 (0, 0)) := by rw [← hw0]; exact blk_new w _
  have HW0 := Lib.hid hw0
  have HE0 : Hid (EdgeRow w0 B (.slice A m cl) l) := Lib.hid (h.only O0 (fun _ _ f => f))
  have HO0 := Lib.hid O0
  have HK0 := Lib.hid k0
  have HM := Lib.hid hm
  have HLT : Hid (∀ k, (Value.slice A m cl).ownBlock = some k → B ≤ k ∧ k < w.heap.size) := Lib.hid (fun k hk => World.ownsRow.lt h k hk)
  have hlm : m ≤ 100000000 := by omega
  have HIN : Hid (insAt l a m = insAt l a l.length) := Lib.hid (by rw [hm])
  clear h hw0 O0 k0 hm hl
  go_enter Try.func32, Try.ntmps32
  go_wp2_with fail
  rw [HW0.out]
  go_step3
  go_wp2_with fail
  have HOW0 := Lib.hid HE0.out
  clear hcl
  go_step3
  rename_i hK
  refine hK _ _ ?_
  refine wp_seq_k ?_
  intro K0 hK0
  go_cut [5] from 8 to 20 (fun v5 wc => ∃ i : Nat, v5 = .int .i64 i ∧ i ≤ m ∧ Hid (i = insAt l a l.length) ∧ Hid (EdgeRow wc B (.slice A m cl) l) ∧ Hid (Only w wc (fun _ => False)) ∧ Hid (wc.heap[w.heap.size]? = some (.cells #[.int .i64 a, .int .i64 b, .int .i64 c] 70 (0, 0))))
  case first =>
    go_wp2_with fail
    go_loopw [5] (fun v5 wr => ∃ i : Nat, v5 = .int .i64 i ∧ i ≤ m ∧ Hid (insAt l a i = insAt l a l.length) ∧ Hid (EdgeRow wr B (.slice A m cl) l) ∧ Hid (Only w wr (fun _ => False)) ∧ Hid (wr.heap[w.heap.size]? = some (.cells #[.int .i64 a, .int .i64 b, .int .i64 c] 70 (0, 0)))) (fun v5 _ => (intOf v5).toNat)
    case atStart => exact ⟨m, rfl, by omega, HIN, HE0, HO0, HK0⟩
    case round =>
      obtain ⟨i, rfl, hi, HI, HE, HO, HK⟩ := hrel
      have b0 := (blk_cell HK.out 0).trans rfl
      have b1 := (blk_cell HK.out 1).trans rfl
      have b2 := (blk_cell HK.out 2).trans rfl
      have hlt := blk_lt HK.out
      rcases Nat.eq_zero_or_pos i with h0 | h0
      · subst h0
        go_wp2_with fail
        go_meet
        exact ⟨0, rfl, by omega, Lib.hid HI.out, HE, HO, HK⟩
      · obtain ⟨j, rfl⟩ : ∃ j, i = j + 1 := ⟨i - 1, by omega⟩
        have hjl : j < l.length := by have := HM.out; omega
        obtain ⟨g, cap, hv, hc⟩ := own_form (show wr.ownsRow B 70 3 (.slice A m cl) l.length (flat3 l) from HE.out) (by omega)
        obtain ⟨rfl, -, rfl⟩ : A = some ⟨g, 0, none⟩ ∧ m = l.length ∧ cl = cap := by simpa using hv
        have hr0 : wr.ownsRow B 70 3 (.slice (some ⟨g, 0, none⟩) l.length cl) l.length (flat3 l) := by have := HE.out; rw [← HM.out] at this; exact this
        have r0 : wr.cell? ⟨g, j * 3, none⟩ = some _ := (hr0.cellAt (j * 3) (by omega)).trans (flat3_get l j hjl).1
        have e1 : ((j + 1 : Nat) : Int) - 1 = (j : Int) := by omega
        have e2 : IntKind.i64.wrap (((j + 1 : Nat) : Int) - 1) = (j : Int) := i64w (by omega) (by omega) (by omega)
        have HJ : Hid (insAt l a (j + 1) = if (rd_T70 l (j : Int)).f0 < a then j + 1 else insAt l a j) := Lib.hid rfl
        generalize (rd_T70 l (j : Int)).f0 = x at *
        clear hv hr0
        by_cases hx : x < a
        · have hd : decide (x < a) = true := by simpa using hx
          go_wp2_with fail
          all_goals go_quiet (fail)
          all_goals go_wp2_with fail
          go_meet
          exact ⟨j + 1, by go_num, hi, Lib.hid (by rw [← HI.out, HJ.out, if_pos hx]), Lib.hid (HE.out.only ((Only.refl wr (fun _ => False)).drewN _) (fun _ _ f => f)), Lib.hid (HO.out.trans ((Only.refl _ _).drewN _)), Lib.hid HK.out⟩
        · have hd : decide (x < a) = false := by simpa using hx
          go_wp2_with fail
          all_goals go_quiet (fail)
          all_goals go_wp2_with fail
          go_roundw
          case measure => simp [intOf]
          case rel => exact ⟨j, by go_num, by omega, Lib.hid (by rw [← HI.out, HJ.out, if_neg (by omega)]), Lib.hid (HE.out.only ((Only.refl wr (fun _ => False)).drewN _) (fun _ _ f => f)), Lib.hid (HO.out.trans ((Only.refl _ _).drewN _)), Lib.hid HK.out⟩
  case rest =>
    obtain ⟨k, rfl, hk, HKI, HE, HO, HK⟩ := hcut
    have b0 := (blk_cell HK.out 0).trans rfl
    have b1 := (blk_cell HK.out 1).trans rfl
    have b2 := (blk_cell HK.out 2).trans rfl
    have hlt := blk_lt HK.out
    have HOWN : Hid ((wc.alloc (.cells #[.int .i64 a, .int .i64 b, .int .i64 c] 70)).ownsRow B 70 3 (.slice A m cl) m (flat3 l)) := Lib.hid (by have := HE.out; unfold EdgeRow at this; rw [HM.out] at this; exact this.alloc _)
    go_wp2_with (first | (at_builtin; refine wpList_append_lies _ (by rfl) (.tmp 21) (.tmp 23) 67 (by rfl) B 70 i0 (.agg #[.int .i64 0, .int .i64 0, .int .i64 0]) 3 24 Try.underlying67 hi0 hz0 hz1 hz2 rfl (by decide) (.slice A m cl) m (flat3 l) (by rfl) HOWN.out ⟨wc.heap.size, 0, none⟩ 1 1 [.int .i64 a, .int .i64 b, .int .i64 c] (by rfl) (by rfl) (news70 wc a b c) (by simp [Value.oneCell']) (by decide) (by simp only [maxLen]; omega) (by omega) (by simp; omega) (wc.heap.size + 1) (by simp) ?_; intro g cap w1 hown hgrow hat hlt1; have HOWN1 := Lib.hid hown; have HGROW := Lib.hid hgrow; have HAT := Lib.hid hat; clear hown hgrow hat hlt1))
    have HMC : Hid (m + 1 ≤ cap) := Lib.hid (by
      rcases HOWN1.out.2 with ⟨h', _⟩ | ⟨g', cap', cur, h', hb, hg, hnc, hcm, hcs, htake⟩
      · simp at h'
      · simp only [Value.slice.injEq, Option.some.injEq, Addr.mk.injEq, and_true, true_and] at h'
        obtain ⟨rfl, rfl⟩ := h'
        exact hnc)
    have hmc := HMC.out
    have f1 : ∀ j, w1.frozen? ⟨g, j, none⟩ = false := HOWN1.out.frozenAt
    clear b0 b1 b2 hlt
    have hgne : w.heap.size ≠ g := by
      rcases HAT.out with h | h
      · have := (HLT.out _ h).2; omega
      · have := blk_lt HK.out; omega
    have hgB : B ≤ g := by
      rcases HAT.out with h | h
      · exact (HLT.out _ h).1
      · have := blk_lt HK.out; omega
    have O1 : Only wc w1 (fun k => (Value.slice A m cl).ownBlock = some k) := ((Only.refl wc (fun k => (Value.slice A m cl).ownBlock = some k)).alloc _).trans ((Only.of_grown HGROW.out).mono (fun k _ hk _ => hk.symm))
    have HO1 : Hid (Only w w1 (fun k => (Value.slice A m cl).ownBlock = some k)) := Lib.hid ((HO.out.mono (fun _ _ f => f.elim)).trans (O1.mono (fun k _ hk _ => hk)))
    have HK1 : Hid (w1.heap[w.heap.size]? = some (.cells #[.int .i64 a, .int .i64 b, .int .i64 c] 70 (0, 0))) := Lib.hid ((O1.block _ (blk_lt HK.out) (fun e => by have := (HLT.out _ e).2; omega)).trans HK.out)
    clear O1
    have hk1 : (k : Int) + 1 ≤ (m : Int) + 1 := by omega
    have hw : IntKind.i64.wrap ((k : Int) + 1) = (k : Int) + 1 := i64w (by omega) (by omega) (by omega)
    have hw2 : IntKind.i64.wrap ((k : Int) + 1) = ((k + 1 : Nat) : Int) := i64w (by omega) (by omega) (by omega)
    obtain ⟨off1, hof1, hof1', hs1'⟩ := cut3 g (m + 1) cap (k + 1) (by omega) hmc
    obtain ⟨off2, hof2, _, hs2'⟩ := cut3 g (m + 1) cap k (by omega) hmc
    obtain rfl := hof2 (by omega)
    have hs1 := fun W => hs1' ((k : Int) + 1) W (by omega)
    have hs2 := fun W => hs2' (k : Int) W rfl
    have hfit1 : off1 + (m - k) * 3 ≤ (m + 1) * 3 := by
      rcases Nat.lt_or_ge (k + 1) cap with h | h
      · have := hof1 h; omega
      · have := hof1' (by omega); omega
    have HOF : Hid (k < m → off1 = (k + 1) * 3) := Lib.hid (fun h => hof1 (by omega))
    clear f1 hof1 hof1' hs1' hs2'
    go_still_tail 7, (by kernel_rfl)
    change wpList _ _ _ _ _ w1.drew
    have HOWN2 : Hid (w1.drew.ownsRow B 70 3 (.slice (some ⟨g, 0, none⟩) (m + 1) cap) (m + 1) (flat3 (l ++ [⟨a, b, c⟩]))) := Lib.hid (by
      have h1 := own_only HOWN1.out ((Only.refl w1 (fun _ => False)).drew) (fun _ _ f => f)
      rw [flat3_append]; exact h1)
    have HO2 : Hid (Only w w1.drew (fun k => (Value.slice A m cl).ownBlock = some k)) := Lib.hid (HO1.out.trans ((Only.refl w1 _).drew))
    have HK2 : Hid (w1.drew.heap[w.heap.size]? = some (.cells #[.int .i64 a, .int .i64 b, .int .i64 c] 70 (0, 0))) := Lib.hid HK1.out
    generalize w1.drew = w2 at HOWN2 HO2 HK2 ⊢
    clear HOWN1 HGROW HO1 HK1
    have hdl : (flat3 (l.drop k)).length = (m - k) * 3 := by rw [flat3_len, List.length_drop, HM.out]
    obtain ⟨cur, hg, hle, htk, hown, hon⟩ := own_splice HOWN2.out off1 (flat3 (l.drop k)) (by rw [hdl]; exact hfit1)
    obtain ⟨L, hL0, hL1, hL2⟩ := splice3 l ⟨a, b, c⟩ k off1 (by rw [HM.out]; exact hk) (by rw [HM.out]; exact HOF.out)
    rw [hL1] at hown
    have hsrc : ∀ j v, (flat3 (l.drop k))[j]? = some v → w2.cell? ((⟨g, k * 3, none⟩ : Addr).add j) = some v := by
      intro j v hj
      have hjl := (List.getElem?_eq_some_iff.1 hj).1
      have e1 : (⟨g, k * 3, none⟩ : Addr).add j = ⟨g, k * 3 + j, none⟩ := by unfold Addr.add; split <;> simp_all
      rw [e1, HOWN2.out.cellAt (k * 3 + j) (by omega), flat3_append, List.getElem?_append_left (by rw [flat3_len, HM.out]; omega), ← List.getElem?_drop, flat3_drop]
      exact hj
    refine wpList_copyN (by rfl) (.tmp 28) (.tmp 31) 67 67 (by rfl) 70 i0 Try.underlying67 hi0 g off1 (m - k) (cap - (k + 1)) ⟨g, k * 3, none⟩ (m + 1 - k) (cap - k) (by rfl) (by rfl) cur 70 hg (flat3 (l.drop k)) (by rw [hdl, hz1]; congr 1; show m - k = Nat.min _ _; simp only [Nat.min_def]; split <;> omega) hsrc (by omega) (flat3_one _) ?_
    have HR3 := Lib.hid hown
    have HO3 := Lib.hid hon
    have HL := Lib.hid hL0
    have HL2 := Lib.hid hL2
    generalize w2.setRow g (cur.toList.take off1 ++ flat3 (l.drop k) ++ cur.toList.drop (off1 + (flat3 (l.drop k)).length)).toArray = w3 at HR3 HO3 ⊢
    clear hown hon hL0 hL1 hL2 hsrc hg hle htk hdl hs1 hs2 hfit1
    have HK3 := Lib.hid ((HO3.out.block _ (blk_lt HK2.out) hgne).trans HK2.out)
    have b0 := (blk_cell HK3.out 0).trans rfl
    have b1 := (blk_cell HK3.out 1).trans rfl
    have b2 := (blk_cell HK3.out 2).trans rfl
    have r0 : w3.cell? ⟨g, k * 3, none⟩ = some _ := (HR3.out.cellAt (k * 3) (by omega)).trans (flat3_get L k (by have := HL.out; have := HM.out; omega)).1
    have r1 : w3.cell? ⟨g, k * 3 + 1, none⟩ = some _ := (HR3.out.cellAt (k * 3 + 1) (by omega)).trans (flat3_get L k (by have := HL.out; have := HM.out; omega)).2.1
    have r2 : w3.cell? ⟨g, k * 3 + 2, none⟩ = some _ := (HR3.out.cellAt (k * 3 + 2) (by omega)).trans (flat3_get L k (by have := HL.out; have := HM.out; omega)).2.2
    have fz : ∀ j, w3.frozen? ⟨g, j, none⟩ = false := HR3.out.frozenAt
    have hkm : (k : Int) < (m : Int) + 1 := by omega
    have hk0 : (0 : Int) ≤ (k : Int) := Int.natCast_nonneg _
    go_wp2_with fail
    go_ret
    have t0 := World.ownsRow.stored HR3.out (k * 3) (.int .i64 a)
    have t1 := World.ownsRow.stored t0.1 (k * 3 + 1) (.int .i64 b)
    have t2 := World.ownsRow.stored t1.1 (k * 3 + 2) (.int .i64 c)
    have hput : putP l ⟨a, b, c⟩ = L.set k ⟨a, b, c⟩ := by rw [HL2.out, HKI.out]; rfl
    refine ⟨_, rfl, ?_, ?_, ?_⟩
    · unfold EdgeRow
      rw [len_putP, HM.out, hput, flat3_set]
      exact t2.1
    · have O4 : Only w3 (((w3.setCell ⟨g, k * 3, none⟩ (.int .i64 a)).setCell ⟨g, k * 3 + 1, none⟩ (.int .i64 b)).setCell ⟨g, k * 3 + 2, none⟩ (.int .i64 c)) (fun j => j = g) := (((Only.refl w3 (fun j => j = g)).cell g _ _ rfl).cell g _ _ rfl).cell g _ _ rfl
      have gone : ∀ j, j = g → j < w.heap.size → (Value.slice A m cl).ownBlock = some j := fun j e hj => by
        subst e
        rcases HAT.out with h | h
        · exact h
        · have := blk_lt HK.out; omega
      exact (HO2.out.trans (HO3.out.mono (fun j _ e hj => gone j e hj))).trans (O4.mono (fun j _ e hj => gone j e hj))
    · intro j hj hv
      have e : g = j := by simpa [Value.ownBlock] using hv
      subst e
      rcases HAT.out with h | h
      · exact h
      · have := blk_lt HK.out; omega
end Go.Proofs.Ytfkejflmhidnaaa.PAll

namespace Go.Proofs.Ytfkejflmhidnaaa.PAll
open Go.RowKit Go.Proofs.YtfkejflmhidnaaaW.PrintWords Go.Proofs.YtfkejflmhidnaaaW.PrintLast Go.Proofs.YtfkejflmhidnaaaW.PrintMore
open Hp hiding Good
set_option linter.unusedVariables false
set_option linter.unusedSimpArgs false

/-- one of the two rows of rows, turned -/
def updB {α : Type} (f : Bool → α) (b : Bool) (x : α) : Bool → α := fun c => if c = b then x else f c
theorem updB_same {α : Type} (f : Bool → α) (b : Bool) (x : α) : updB f b x b = x := if_pos rfl
theorem updB_ne {α : Type} (f : Bool → α) {b c : Bool} (x : α) (h : c ≠ b) : updB f b x c = f c := if_neg h

/-- the rows of rows that New builds: 'true' the upper one -/
structure Two (w : World) (Bo Be : Nat) (G : Bool → Nat) (n : Nat) (V : Bool → List Value) (P : Bool → List (List S70)) : Prop where
  own : ∀ b, w.ownsRow Bo 67 1 (.slice (some ⟨G b, 0, none⟩) n n) n (V b)
  ne : ∀ b c, b ≠ c → G b ≠ G c
  len : ∀ b, (P b).length = n
  row : ∀ b j, j < n → EdgeRow w Be ((V b).getD j (.slice none 0 0)) ((P b).getD j [])
  apart : ∀ b c i j, i < n → j < n → (b, i) ≠ (c, j) → ∀ k, ((V b).getD i (.slice none 0 0)).ownBlock = some k → ((V c).getD j (.slice none 0 0)).ownBlock ≠ some k

theorem Two.vlen {w : World} {Bo Be n : Nat} {G : Bool → Nat} {V : Bool → List Value} {P : Bool → List (List S70)} (h : Two w Bo Be G n V P) (b : Bool) : (V b).length = n := by
  have := (h.own b).1
  omega

theorem Two.only {w w1 : World} {S : Nat → Prop} {Bo Be n : Nat} {G : Bool → Nat} {V : Bool → List Value} {P : Bool → List (List S70)} (h : Two w Bo Be G n V P) (g : Only w w1 S) (hs : ∀ b, ¬ S (G b)) (hs2 : ∀ k, Be ≤ k → ¬ S k) : Two w1 Bo Be G n V P :=
  ⟨fun b => own_only (h.own b) g (fun k hk => by cases hk; exact hs b), h.ne, h.len, fun b j hj => (h.row b j hj).only g (fun k hk => hs2 k (World.ownsRow.lt (h.row b j hj) k hk).1), h.apart⟩

theorem getD_set_same {α : Type} (l : List α) (j : Nat) (x d : α) (h : j < l.length) : (l.set j x).getD j d = x := by simp [List.getD, h]
theorem getD_set_ne' {α : Type} (l : List α) (i j : Nat) (x d : α) (h : i ≠ j) : (l.set j x).getD i d = l.getD i d := by simp [List.getD, h.symm]

theorem Two.cellOf {w : World} {Bo Be n : Nat} {G : Bool → Nat} {V : Bool → List Value} {P : Bool → List (List S70)} (h : Two w Bo Be G n V P) (b : Bool) (j : Nat) (hj : j < n) :
    w.cell? ⟨G b, j, none⟩ = some ((V b).getD j (.slice none 0 0)) ∧ w.frozen? ⟨G b, j, none⟩ = false ∧ G b < w.heap.size := by
  have hv := h.vlen b
  refine ⟨?_, World.ownsRow.frozenAt (h.own b) j, (World.ownsRow.lt (h.own b) _ rfl).2⟩
  rw [World.ownsRow.cellAt (h.own b) j (by omega)]
  simp [List.getD, hv, hj]

/-- behind a put that is stored back -/
theorem Two.put {w w1 : World} {Bo Be n : Nat} {G : Bool → Nat} {V : Bool → List Value} {P : Bool → List (List S70)} (h : Two w Bo Be G n V P) (b : Bool) (j : Nat) (hj : j < n) (v' : Value) (l' : List S70)
    (hE : EdgeRow w1 Be v' l') (hO : Only w w1 (fun k => ((V b).getD j (.slice none 0 0)).ownBlock = some k)) (hK : ∀ k, k < w.heap.size → v'.ownBlock = some k → ((V b).getD j (.slice none 0 0)).ownBlock = some k) :
    Two (w1.setCell ⟨G b, j, none⟩ v') Bo Be G n (updB V b ((V b).set j v')) (updB P b ((P b).set j l')) := by
  have tG : ∀ c, ∃ cur, w.heap[G c]? = some (.cells cur 67 (0, 0)) := fun c => own_blk (h.own c)
  have nG : ∀ c i, i < n → ((V b).getD i (.slice none 0 0)).ownBlock ≠ some (G c) := fun c i hi e => by
    obtain ⟨cells, hc⟩ := own_typed (h.row b i hi) _ e
    obtain ⟨cur, hg⟩ := tG c
    exact ne_typed hc hg (by decide) rfl
  have nG' : ∀ d c i, i < n → ((V d).getD i (.slice none 0 0)).ownBlock ≠ some (G c) := fun d c i hi e => by
    obtain ⟨cells, hc⟩ := own_typed (h.row d i hi) _ e
    obtain ⟨cur, hg⟩ := tG c
    exact ne_typed hc hg (by decide) rfl
  have own1 : ∀ c, w1.ownsRow Bo 67 1 (.slice (some ⟨G c, 0, none⟩) n n) n (V c) := fun c => own_only (h.own c) hO (fun k hk e => by cases hk; exact nG c j hj e)
  have tG1 : ∀ c, ∃ cur, w1.heap[G c]? = some (.cells cur 67 (0, 0)) := fun c => own_blk (own1 c)
  have nv : ∀ c, v'.ownBlock ≠ some (G c) := fun c e => by
    obtain ⟨cells, hc⟩ := own_typed hE _ e
    obtain ⟨cur, hg⟩ := tG1 c
    exact ne_typed hc hg (by decide) rfl
  have O2 : Only w1 (w1.setCell ⟨G b, j, none⟩ v') (fun k => k = G b) := (Only.refl w1 (fun k => k = G b)).cell _ _ _ rfl
  have hvl := h.vlen b
  refine ⟨fun c => ?_, h.ne, fun c => ?_, fun c i hi => ?_, fun c d i i' hi hi' hne k hk => ?_⟩
  · by_cases e : c = b
    · subst e
      rw [updB_same]
      exact (World.ownsRow.stored (own1 c) j v').1
    · rw [updB_ne _ _ e]
      exact own_only (own1 c) O2 (fun k hk e' => by cases hk; exact h.ne c b e e')
  · by_cases e : c = b
    · subst e; rw [updB_same, List.length_set]; exact h.len c
    · rw [updB_ne _ _ e]; exact h.len c
  · by_cases e : c = b
    · subst e
      rw [updB_same, updB_same]
      by_cases e2 : i = j
      · subst e2
        rw [getD_set_same _ _ _ _ (by omega), getD_set_same _ _ _ _ (by rw [h.len]; exact hi)]
        exact hE.only O2 (fun k hk e' => nv c (by rw [hk, e']))
      · rw [getD_set_ne' _ _ _ _ _ e2, getD_set_ne' _ _ _ _ _ e2]
        exact ((h.row c i hi).only hO (fun k hk e' => h.apart c c i j hi hj (by simpa using e2) k hk e')).only O2 (fun k hk e' => nG' c c i hi (by rw [hk, e']))
    · rw [updB_ne _ _ e, updB_ne _ _ e]
      exact ((h.row c i hi).only hO (fun k hk e' => h.apart c b i j hi hj (by simp [e]) k hk e')).only O2 (fun k hk e' => nG' c b i hi (by rw [hk, e']))
  · have val : ∀ c i, i < n → ((c, i) = (b, j) ∧ (updB V b ((V b).set j v') c).getD i (.slice none 0 0) = v') ∨ ((c, i) ≠ (b, j) ∧ (updB V b ((V b).set j v') c).getD i (.slice none 0 0) = (V c).getD i (.slice none 0 0)) := fun c i hi => by
      by_cases e : c = b
      · subst e
        rw [updB_same]
        by_cases e2 : i = j
        · subst e2; exact .inl ⟨rfl, getD_set_same _ _ _ _ (by omega)⟩
        · exact .inr ⟨by simpa using e2, getD_set_ne' _ _ _ _ _ e2⟩
      · rw [updB_ne _ _ e]
        exact .inr ⟨by simp [e], rfl⟩
    rcases val c i hi with ⟨e1, e2⟩ | ⟨e1, e2⟩ <;> rcases val d i' hi' with ⟨f1, f2⟩ | ⟨f1, f2⟩
    · exact absurd (e1.trans f1.symm) hne
    · rw [e2] at hk
      rw [f2]
      intro f3
      have hlt := (World.ownsRow.lt (h.row d i' hi') k f3).2
      exact h.apart b d j i' hj hi' (fun e => f1 e.symm) k (hK k hlt hk) f3
    · rw [e2] at hk
      rw [f2]
      intro f3
      have hlt := (World.ownsRow.lt (h.row c i hi) k hk).2
      exact h.apart c b i j hi hj e1 k hk (hK k hlt f3)
    · rw [e2] at hk
      rw [f2]
      exact h.apart c d i i' hi hi' hne k hk

theorem Two.C {w : World} {Bo Be n : Nat} {G : Bool → Nat} {V : Bool → List Value} {P : Bool → List (List S70)} (h : Two w Bo Be G n V P) (b : Bool) (hn : n ≤ 1000000) : Kd.C (Kd.slice 70 k70) w (some ⟨G b, 0, none⟩) n (P b) := by
  refine ⟨h.len b, by omega, fun _ => ⟨_, rfl, fun j p hj => ?_⟩⟩
  have hlt : j < n := by
    have := (List.getElem?_eq_some_iff.1 hj).1
    rw [h.len b] at this
    exact this
  have hp : (P b).getD j [] = p := by simp [List.getD, hj]
  have hr := h.row b j hlt
  rw [hp] at hr
  obtain ⟨A, c, e1, e2, e3⟩ := hr.C
  refine ⟨[(V b).getD j (.slice none 0 0)], rfl, ⟨A, c, by rw [e1], e2, e3⟩, fun i u hu => ?_⟩
  have hi0 : i = 0 := by
    have := (List.getElem?_eq_some_iff.1 hu).1
    simpa using this
  subst hi0
  have hu' : (V b).getD j (.slice none 0 0) = u := by simpa using hu
  rw [← hu']
  have ea : (⟨G b, 0, none⟩ : Addr).add (j * (Kd.slice 70 k70).sz + 0) = ⟨G b, j, none⟩ := by
    rw [show (Kd.slice 70 k70).sz = 1 from rfl]
    unfold Addr.add
    by_cases e : j = 0 <;> simp [e]
  rw [ea]
  exact (h.cellOf b j hlt).1

/-- what New puts where -/
def stepB (rank : List Int) (P : Bool → List (List S70)) (i : Nat) (e : S66) : Bool → List (List S70) :=
  if rd rank e.f0 < rd rank e.f1 then updB P true ((P true).set e.f0.toNat (putP ((P true).getD e.f0.toNat []) ⟨e.f1, e.f2.f0, i⟩))
  else updB P false ((P false).set e.f1.toNat (putP ((P false).getD e.f1.toNat []) ⟨e.f0, e.f2.f0, i⟩))
def buildB (rank : List Int) (ways : List S66) (n : Nat) : Nat → Bool → List (List S70)
  | 0 => fun _ => List.replicate n []
  | i + 1 => stepB rank (buildB rank ways n i) i (rd_T66 ways (i : Int))
end Go.Proofs.Ytfkejflmhidnaaa.PAll

namespace Go.Proofs.Ytfkejflmhidnaaa.PAll
open Go.RowKit Go.Proofs.YtfkejflmhidnaaaW.PrintWords Go.Proofs.YtfkejflmhidnaaaW.PrintLast Go.Proofs.YtfkejflmhidnaaaW.PrintMore
open Hp hiding Good
set_option linter.unusedVariables false
set_option linter.unusedSimpArgs false

theorem info3z : (Try.prog.info? 3).map (fun i => (i.zero, i.size, i.bytes)) = some (some (.int .i64 0), 1, 8) := by kernel_rfl
theorem info66z : (Try.prog.info? 66).map (fun i => (i.zero, i.size, i.bytes)) = some (some (.agg #[.int .i64 0, .int .i64 0, .int .i64 0, .int .i64 0, .int .i64 0]), 5, 40) := by kernel_rfl
theorem info67z : (Try.prog.info? 67).map (fun i => (i.zero, i.size, i.bytes)) = some (some (.slice none 0 0), 1, 24) := by kernel_rfl

theorem two_new (W : World) (Bo n u d : Nat) (hn : n ≤ 1000000) (hu : Bo ≤ u) (hd : Bo ≤ d) (hne : u ≠ d) (h1 : W.heap[u]? = some (.cells (madeCells #[.slice none 0 0] n) 67 (0, 0))) (h2 : W.heap[d]? = some (.cells (madeCells #[.slice none 0 0] n) 67 (0, 0))) :
    Two W Bo Bo (fun b => if b = true then u else d) n (fun _ => List.replicate n (.slice none 0 0)) (fun _ => List.replicate n []) := by
  have own : ∀ g, Bo ≤ g → W.heap[g]? = some (.cells (madeCells #[.slice none 0 0] n) 67 (0, 0)) → W.ownsRow Bo 67 1 (.slice (some ⟨g, 0, none⟩) n n) n (List.replicate n (.slice none 0 0)) := fun g hg h => by
    refine ⟨by simp, .inr ⟨g, n, _, rfl, hg, h, Nat.le_refl _, Nat.le_trans hn (by decide), by simp [size_madeCells], ?_⟩⟩
    rw [toList_madeCells_one]
    simp
  have gd : ∀ j, (List.replicate n (Value.slice none 0 0)).getD j (.slice none 0 0) = .slice none 0 0 := fun j => by
    simp only [List.getD, List.getElem?_replicate]
    split <;> rfl
  refine ⟨fun b => ?_, fun b c h => ?_, fun b => by simp, fun b j hj => ?_, fun b c i j hi hj _ k hk => ?_⟩
  · cases b
    · exact own d hd h2
    · exact own u hu h1
  · cases b <;> cases c
    · exact absurd rfl h
    · exact fun e => hne e.symm
    · exact hne
    · exact absurd rfl h
  · rw [gd]
    have : (List.replicate n ([] : List S70)).getD j [] = [] := by
      simp only [List.getD, List.getElem?_replicate]
      split <;> rfl
    rw [this]
    exact World.ownsRow_nil _ _ _ _
  · rw [gd] at hk
    simp [Value.ownBlock] at hk

theorem Two.held {w w1 : World} {Bo Be n : Nat} {G : Bool → Nat} {V : Bool → List Value} {P : Bool → List (List S70)} (h : Two w Bo Be G n V P) (b : Bool) (j : Nat) (hj : j < n)
    (hO : Only w w1 (fun k => ((V b).getD j (.slice none 0 0)).ownBlock = some k)) (c : Bool) (i : Nat) (hi : i < n) : w1.cell? ⟨G c, i, none⟩ = some ((V c).getD i (.slice none 0 0)) ∧ w1.frozen? ⟨G c, i, none⟩ = false ∧ G c < w1.heap.size := by
  have own1 : w1.ownsRow Bo 67 1 (.slice (some ⟨G c, 0, none⟩) n n) n (V c) := own_only (h.own c) hO (fun k hk e => by
    cases hk
    obtain ⟨cells, hc⟩ := own_typed (h.row b j hj) _ e
    obtain ⟨cur, hg⟩ := own_blk (h.own c)
    exact ne_typed hc hg (by decide) rfl)
  have hv := h.vlen c
  refine ⟨?_, World.ownsRow.frozenAt own1 i, (World.ownsRow.lt own1 _ rfl).2⟩
  rw [World.ownsRow.cellAt own1 i (by omega)]
  simp [List.getD, hv, hi]

theorem buildB_len (rank : List Int) (ways : List S66) (n : Nat) : ∀ (i : Nat) (b : Bool) (j : Nat), ((buildB rank ways n i b).getD j []).length ≤ i
  | 0, b, j => by
    show ((List.replicate n ([] : List S70)).getD j []).length ≤ 0
    simp only [List.getD, List.getElem?_replicate]
    split <;> simp
  | i + 1, b, j => by
    have step : ∀ (c : Bool) (k : Nat) (e : S70), ((updB (buildB rank ways n i) c ((buildB rank ways n i c).set k (putP ((buildB rank ways n i c).getD k []) e)) b).getD j []).length ≤ i + 1 := fun c k e => by
      by_cases hb : b = c
      · subst hb
        rw [updB_same]
        by_cases hj : j = k
        · subst hj
          rcases Nat.lt_or_ge j (buildB rank ways n i b).length with h | h
          · rw [getD_set_same _ _ _ _ h, len_putP]
            have := buildB_len rank ways n i b j
            omega
          · have : ((buildB rank ways n i b).set j (putP ((buildB rank ways n i b).getD j []) e)).getD j [] = [] := by simp [List.getD, h]
            rw [this]
            simp
        · rw [getD_set_ne' _ _ _ _ _ hj]
          have := buildB_len rank ways n i b j
          omega
      · rw [updB_ne _ _ hb]
        have := buildB_len rank ways n i b j
        omega
    show ((stepB rank (buildB rank ways n i) i (rd_T66 ways (i : Int)) b).getD j []).length ≤ i + 1
    unfold stepB
    split
    · exact step true _ _
    · exact step false _ _

theorem six (W : World) (xb u d n : Nat) (c0 c1 c2 c3 : Value) (hn : n ≤ 1000000) (hx : W.heap[xb]? = some (.cells #[c0, c1, c2, c3, .slice none 0 0, .slice none 0 0] 62 (0, 0))) (h : (u = W.heap.size ∧ d = W.heap.size + 1) ∨ (u = W.heap.size + 1 ∧ d = W.heap.size))
    (W6 : World) (h6 : W6 = ((((W.setCell ⟨xb, 4, none⟩ (.slice (some ⟨u, 0, none⟩) n n)).setCell ⟨xb, 5, none⟩ (.slice (some ⟨d, 0, none⟩) n n)).alloc (.cells (madeCells #[.slice none 0 0] n) 67)).alloc (.cells (madeCells #[.slice none 0 0] n) 67)).drew) :
    Hid (W6.heap[xb]? = some (.cells #[c0, c1, c2, c3, .slice (some ⟨u, 0, none⟩) n n, .slice (some ⟨d, 0, none⟩) n n] 62 (0, 0))) ∧ Hid (W.heap.size ≤ u ∧ W.heap.size ≤ d ∧ u ≠ d) ∧ Hid (Two W6 W.heap.size W.heap.size (fun b => if b = true then u else d) n (fun _ => List.replicate n (.slice none 0 0)) (fun _ => List.replicate n [])) ∧ Hid (Only W W6 (fun k => k = xb)) := by
  have hlx := blk_lt hx
  obtain ⟨Wa, ha⟩ : ∃ Wa, (W.setCell ⟨xb, 4, none⟩ (.slice (some ⟨u, 0, none⟩) n n)).setCell ⟨xb, 5, none⟩ (.slice (some ⟨d, 0, none⟩) n n) = Wa := ⟨_, rfl⟩
  have hxa : Wa.heap[xb]? = some (.cells #[c0, c1, c2, c3, .slice (some ⟨u, 0, none⟩) n n, .slice (some ⟨d, 0, none⟩) n n] 62 (0, 0)) := by
    rw [← ha]
    exact blk_set (blk_set hx 4 _) 5 _
  have hOa : Only W Wa (fun k => k = xb) := by
    rw [← ha]
    exact ((Only.refl W (fun k => k = xb)).cell _ _ _ rfl).cell _ _ _ rfl
  have hsa : Wa.heap.size = W.heap.size := by rw [← ha]; simp
  rw [ha] at h6
  obtain ⟨Wb, hb⟩ : ∃ Wb, Wa.alloc (.cells (madeCells #[.slice none 0 0] n) 67) = Wb := ⟨_, rfl⟩
  have hsb : Wb.heap.size = W.heap.size + 1 := by rw [← hb]; simp [hsa]
  have kb : Wb.heap[W.heap.size]? = some (.cells (madeCells #[.slice none 0 0] n) 67 (0, 0)) := by rw [← hb, ← hsa]; exact blk_new Wa _
  have hxb' : Wb.heap[xb]? = Wa.heap[xb]? := by rw [← hb]; exact Below.heap_alloc _ _ _ (by omega)
  rw [hb] at h6
  have k1 : W6.heap[W.heap.size]? = some (.cells (madeCells #[.slice none 0 0] n) 67 (0, 0)) := by
    rw [h6]
    exact (Below.heap_alloc Wb _ _ (by omega)).trans kb
  have k2 : W6.heap[W.heap.size + 1]? = some (.cells (madeCells #[.slice none 0 0] n) 67 (0, 0)) := by
    rw [h6, ← hsb]
    exact blk_new Wb _
  have k3 : W6.heap[xb]? = Wa.heap[xb]? := by
    rw [h6]
    exact (Below.heap_alloc Wb _ _ (by omega)).trans hxb'
  have hO6 : Only W W6 (fun k => k = xb) := by
    rw [h6, ← hb]
    exact ((hOa.alloc _).alloc _).drew
  refine ⟨Lib.hid (k3.trans hxa), Lib.hid (by omega), Lib.hid ?_, Lib.hid hO6⟩
  rcases h with ⟨rfl, rfl⟩ | ⟨rfl, rfl⟩
  · exact two_new _ _ _ _ _ hn (by omega) (by omega) (by omega) k1 k2
  · exact two_new _ _ _ _ _ hn (by omega) (by omega) (by omega) k2 k1

set_option maxRecDepth 100000 in
set_option maxHeartbeats 4000000 in
theorem hnew_walk (w : World) (n : Nat) (rank : List Int) (ways : List S66) (V : VH n rank ways) (rA wA : Option Addr) (rc wc : Nat) (hr : Kd.C (Kd.int .i64) w rA n rank) (hw : Kd.C k66 w wA ways.length ways) :
    Calls Try.prog 9 #[.agg #[.slice rA n rc, .slice wA ways.length wc]] w fun r w' => ∃ xb x, r = .returned (.pointer (some ⟨xb, 0, none⟩)) ∧ HierRep w' xb n ⟨rank, x, buildB rank ways n ways.length true, buildB rank ways n ways.length false⟩ ∧ (∀ u : Nat, u < n → rd x (rd rank u) = u) ∧ Below w.heap.size w w' := by
  have hn := V.small
  have hf := V.few
  have HV := Lib.hid V
  have hrl := V.rl
  obtain ⟨w0, hw0⟩ : ∃ w0, w.alloc (.cells #[.slice rA n rc, .slice wA ways.length wc] 31) = w0 := ⟨_, rfl⟩
  have B0 : Below w.heap.size w w0 := by rw [← hw0]; exact (Below.refl _ _).alloc (Nat.le_refl _) _
  have hs0 : w0.heap.size = w.heap.size + 1 := by rw [← hw0]; simp
  have bt0 : w0.heap[w.heap.size]? = some (.cells #[.slice rA n rc, .slice wA ways.length wc] 31 (0, 0)) := by rw [← hw0]; exact blk_new w _
  have HR := Lib.hid (Kd.C_below hr B0)
  have HW := Lib.hid hw
  have HB0 := Lib.hid B0
  have HS0 := Lib.hid hs0
  have HBT := Lib.hid bt0
  have HW0 := Lib.hid hw0
  have HB00 := Lib.hid (Below.refl w0.heap.size w0)
  obtain ⟨len, hlen⟩ : ∃ len, ways.length = len := ⟨_, rfl⟩
  have HLEN := Lib.hid hlen
  rw [hlen] at hf HBT HW0 HW ⊢
  have p0 := (blk_cell HBT.out 0).trans rfl
  have p1 := (blk_cell HBT.out 1).trans rfl
  have q0 := blk_frozen HBT.out 0
  have hlt := blk_lt HBT.out
  clear V hr hw B0 hs0 bt0 hw0 hlen
  go_enter Try.func9, Try.ntmps9
  go_upto_region 1 with (fail)
  rw [HW0.out]
  go_upto_region 2 with (first | (at_builtin; refine Kd.R_append_rows (Kd.int .i64) (w0 := w0) w0.heap.size rfl (.const (.slice none 0 0)) (.tmp 8) 28 3 (.int .i64 0) 8 rfl Try.underlying28 info3z rfl (by decide) (by omega) (.slice none 0 0) ([] : List Int) rank rA n rc (fun _ => True) (fun _ => False) rfl rfl (Kd.R_nil _ _ _ _ _) HR.out (fun x cs hx => hx) (fun _ h => h.elim) (fun _ _ => trivial) HB00.out (Nat.le_refl _) (by simp; omega) ?_; intro v1 w1 hR1 hB1 _ _; rw [List.nil_append] at hR1; obtain ⟨A1, c1, hv1, hc1, _⟩ := Kd.R_reads hR1; rw [hrl] at hv1; subst hv1; have HR1 := Lib.hid hR1; have HB1 := Lib.hid hB1; have HBT1 := Lib.hid ((hB1.block _ hlt).trans HBT.out); have q1 := blk_frozen HBT1.out 0; have p0' := (blk_cell HBT1.out 0).trans rfl; have hlt1 := blk_lt HBT1.out; clear hR1 hB1 p0 p1 q0 hlt))
  have HBT2 : Hid ((w1.setCell ⟨w.heap.size, 0, none⟩ (.slice A1 n c1)).heap[w.heap.size]? = some (.cells #[.slice A1 n c1, .slice wA len wc] 31 (0, 0))) := Lib.hid (blk_set HBT1.out 0 _)
  have HR2 : Hid (Kd.R (Kd.int .i64) 3 (w1.setCell ⟨w.heap.size, 0, none⟩ (.slice A1 n c1)) w0.heap.size (fun _ => True) (.slice A1 n c1) rank) := Lib.hid (Kd.R_set HR1.out HBT1.out (by intro q hq; have : q ∈ [3] := hq; simp at this; omega) 0 _)
  have HB2 : Hid (Below w.heap.size w (w1.setCell ⟨w.heap.size, 0, none⟩ (.slice A1 n c1))) := Lib.hid ((HB0.out.trans (HB1.out.mono HB0.out.size)).setCell (p := ⟨w.heap.size, 0, none⟩) (Nat.le_refl _) _)
  have hsz2 : Hid (w0.heap.size ≤ (w1.setCell ⟨w.heap.size, 0, none⟩ (.slice A1 n c1)).heap.size) := Lib.hid (by have := HB1.out.size; simpa using this)
  generalize w1.setCell ⟨w.heap.size, 0, none⟩ (.slice A1 n c1) = w2 at HBT2 HR2 HB2 hsz2 ⊢
  clear HR1 HB1 HBT1 q1 p0' hlt1 HR
  have p0 := (blk_cell HBT2.out 0).trans rfl
  have p1 := (blk_cell HBT2.out 1).trans rfl
  have hlt := blk_lt HBT2.out
  have HB22 := Lib.hid (Below.refl w2.heap.size w2)
  have HW2 : Hid (Kd.C k66 w2 wA len ways) := Lib.hid (Kd.C_below HW.out HB2.out)
  have hwl : ways.length = len := HLEN.out
  go_upto_region 3 with (first | (at_builtin; refine Kd.R_append_rows k66 (w0 := w2) w2.heap.size rfl (.const (.slice none 0 0)) (.tmp 12) 29 66 (.agg #[.int .i64 0, .int .i64 0, .int .i64 0, .int .i64 0, .int .i64 0]) 40 rfl Try.underlying29 info66z rfl (by decide) (by omega) (.slice none 0 0) ([] : List S66) ways wA len wc (fun _ => True) (fun _ => False) rfl rfl (Kd.R_nil _ _ _ _ _) HW2.out (fun x cs hx => by obtain rfl := k66_open hx; exact k66_mkM _ _ _ _) (fun _ h => h.elim) (fun _ _ => trivial) HB22.out (Nat.le_refl _) (by simp; omega) ?_; intro v3 w3 hR3 hB3 _ _; rw [List.nil_append] at hR3; obtain ⟨A2, c2, hv3, hc2, _⟩ := Kd.R_reads hR3; rw [hwl] at hv3; subst hv3; have HWR3 := Lib.hid hR3; have HB3 := Lib.hid hB3; have HBT3 := Lib.hid ((hB3.block _ hlt).trans HBT2.out); have q1 := blk_frozen HBT3.out 1; have p1' := (blk_cell HBT3.out 1).trans rfl; have hlt3 := blk_lt HBT3.out; clear hR3 hB3 p0 p1 hlt))
  have HBT4 : Hid ((w3.setCell ⟨w.heap.size, 1, none⟩ (.slice A2 len c2)).heap[w.heap.size]? = some (.cells #[.slice A1 n c1, .slice A2 len c2] 31 (0, 0))) := Lib.hid (blk_set HBT3.out 1 _)
  have HR4 : Hid (Kd.R (Kd.int .i64) 3 (w3.setCell ⟨w.heap.size, 1, none⟩ (.slice A2 len c2)) w0.heap.size (fun _ => True) (.slice A1 n c1) rank) := Lib.hid (Kd.R_set (Kd.R_below HR2.out HB3.out) HBT3.out (by intro q hq; have : q ∈ [3] := hq; simp at this; omega) 1 _)
  have HWR4 : Hid (Kd.R k66 66 (w3.setCell ⟨w.heap.size, 1, none⟩ (.slice A2 len c2)) w2.heap.size (fun _ => True) (.slice A2 len c2) ways) := Lib.hid (Kd.R_set HWR3.out HBT3.out (by intro q hq; have : q ∈ [66] := hq; simp at this; omega) 1 _)
  have HB4 : Hid (Below w.heap.size w (w3.setCell ⟨w.heap.size, 1, none⟩ (.slice A2 len c2))) := Lib.hid ((HB2.out.trans (HB3.out.mono HB2.out.size)).setCell (p := ⟨w.heap.size, 1, none⟩) (Nat.le_refl _) _)
  generalize w3.setCell ⟨w.heap.size, 1, none⟩ (.slice A2 len c2) = w4 at HBT4 HR4 HWR4 HB4 ⊢
  clear HWR3 HB3 HBT3 q1 p1' hlt3 HR2 HBT2 HB22 HW2 hwl HB2 hsz2
  have HC4 : Hid (Kd.C (Kd.int .i64) w4 A1 n rank) := Lib.hid (by have := (Kd.R_reads' HR4.out).2.2; rw [hrl] at this; exact this)
  have HWC4 : Hid (Kd.C k66 w4 A2 ways.length ways) := Lib.hid (Kd.R_reads' HWR4.out).2.2
  have hck := check_walk w4 n rank ways HV.out A1 A2 c1 c2 HC4.out HWC4.out
  rw [HLEN.out] at hck
  have HCK := Lib.hid hck
  clear hck HR4 HWR4
  have p0 := (blk_cell HBT4.out 0).trans rfl
  have p1 := (blk_cell HBT4.out 1).trans rfl
  have hlt := blk_lt HBT4.out
  go_upto_region 6 with (first | (go_at_call 31; refine HCK.out.mono ?_; rintro e w5 ⟨xb, g, mb, m, x, rfl, hC5, hB5⟩; have HC5 := Lib.hid hC5; have HB5 := Lib.hid hB5; clear hC5 hB5))
  have HBT5 : Hid (w5.heap[w.heap.size]? = some (.cells #[.slice A1 n c1, .slice A2 len c2] 31 (0, 0))) := Lib.hid ((HB5.out.block _ hlt).trans HBT4.out)
  have HXB5 : Hid (w5.heap[xb]? = some (.cells #[.slice A1 n c1, .slice A2 len c2, .slice (some ⟨g, 0, none⟩) n n, .map (some mb), .slice none 0 0, .slice none 0 0] 62 (0, 0))) := Lib.hid (by have := HC5.out.blk; rw [HLEN.out] at this; exact this)
  have HTN := Lib.hid (blk_ne HBT5.out HXB5.out (by decide))
  clear p0 p1 hlt HBT4 HB0 HS0 HB00
  have p0 := (blk_cell HBT5.out 0).trans rfl
  have p1 := (blk_cell HBT5.out 1).trans rfl
  have x4 := (blk_cell HXB5.out 4).trans rfl
  have x5 := (blk_cell HXB5.out 5).trans rfl
  have z4 := blk_frozen HXB5.out 4
  have z5 := blk_frozen HXB5.out 5
  have hlt := blk_lt HBT5.out
  have hlx := blk_lt HXB5.out
  have htn := HTN.out
  have htn' : ¬ xb = w.heap.size := fun e => htn e.symm
  have hmk : ∀ W : World, (Instr.makeSlice 59 (.int .i64 (n : Int)) (.int .i64 (n : Int))).run Try.prog W = .ok (.slice (some ⟨W.heap.size, 0, none⟩) n n) (W.alloc (.cells (madeCells #[.slice none 0 0] n) 67)) := by
    intro W
    obtain ⟨i0, hi0, hz0, hz1, hz2⟩ := info_parts info67z
    have := run_makeSlice (P := Try.prog) W 59 67 i0 (.slice none 0 0) Try.underlying59 hi0 hz0 .i64 .i64 (n : Int) (n : Int) (by omega) (by omega) (by rw [hz1]; omega) (by rw [hz2]; omega) (by omega)
    rw [hz1] at this
    simpa [Value.cells] using this
  go_cut [] from 22 to 35 (fun wd => ∃ u d : Nat, Hid (wd.heap[xb]? = some (.cells #[.slice A1 n c1, .slice A2 len c2, .slice (some ⟨g, 0, none⟩) n n, .map (some mb), .slice (some ⟨u, 0, none⟩) n n, .slice (some ⟨d, 0, none⟩) n n] 62 (0, 0))) ∧ Hid (w5.heap.size ≤ u ∧ w5.heap.size ≤ d ∧ u ≠ d) ∧ Hid (Two wd w5.heap.size w5.heap.size (fun b => if b = true then u else d) n (fun _ => List.replicate n (.slice none 0 0)) (fun _ => List.replicate n [])) ∧ Hid (Only w5 wd (fun k => k = xb)))
  case first =>
    go_region
    all_goals go_wp2_with fail
    all_goals go_meet
    · exact ⟨_, _, six w5 xb _ _ n _ _ _ _ (by omega) HXB5.out (.inl ⟨rfl, rfl⟩) _ rfl⟩
    · exact ⟨_, _, six w5 xb _ _ n _ _ _ _ (by omega) HXB5.out (.inr ⟨rfl, rfl⟩) _ rfl⟩
  case rest =>
    obtain ⟨u, d, HXB6, HUD, HT6, HO6⟩ := hcut
    clear p0 p1 x4 x5 z4 z5 hlt hlx htn htn' hmk
    have HBT6 := Lib.hid ((HO6.out.block _ (blk_lt HBT5.out) HTN.out).trans HBT5.out)
    have p0 := (blk_cell HBT6.out 0).trans rfl
    have p1 := (blk_cell HBT6.out 1).trans rfl
    go_wp2_with fail
    clear p0 p1
    have HX4 : Hid (w4.heap.size ≤ xb) := Lib.hid HC5.out.new
    have HB6 : Hid (Below w4.heap.size w4 wc) := Lib.hid (HB5.out.trans (Only.below HO6.out HB5.out.size (fun k e => by rw [e]; exact HX4.out)))
    have HBB : Hid (w5.heap.size ≤ wc.heap.size) := Lib.hid HO6.out.size
    have h45 := HB5.out.size
    go_loopw [39] (fun v39 wr => ∃ i : Nat, v39 = .int .i64 i ∧ i ≤ len ∧ Hid (∃ V, Two wr w5.heap.size w5.heap.size (fun b => if b = true then u else d) n V (buildB rank ways n i)) ∧ Hid (Below w5.heap.size wc wr)) (fun v39 _ => len - (intOf v39).toNat)
    case atStart => exact ⟨0, rfl, by omega, Lib.hid ⟨_, HT6.out⟩, Lib.hid (Below.refl _ _)⟩
    case round =>
      obtain ⟨i, rfl, hi, HTW, HBL⟩ := hrel
      have HBT7 := Lib.hid ((HBL.out.block _ (blk_lt HBT5.out)).trans HBT6.out)
      have HXB7 := Lib.hid ((HBL.out.block _ (blk_lt HXB5.out)).trans HXB6.out)
      have HBR : Hid (Below w4.heap.size w4 wr) := Lib.hid (HB6.out.trans (HBL.out.mono h45))
      have hlt := blk_lt HBT7.out
      have hlx := blk_lt HXB7.out
      by_cases hil : i < len
      · obtain ⟨ad, rfl, r0, r1, r2, r3, r4⟩ := at_T66 (Kd.C_below HWC4.out HBR.out) (i : Int) (by omega) (by have := HLEN.out; omega)
        have HMEM := Lib.hid (rd66_mem ways i (by have := HLEN.out; omega))
        have HST : Hid (buildB rank ways n (i + 1) = stepB rank (buildB rank ways n i) i (rd_T66 ways (i : Int))) := Lib.hid rfl
        have HEN := Lib.hid (HV.out.ends _ HMEM.out)
        simp only [Int.toNat_natCast] at r0 r1 r2 r3 r4
        generalize rd_T66 ways (i : Int) = e at *
        obtain ⟨a, b, xx, y, z⟩ := e
        simp only at r0 r1 r2 r3 r4
        obtain ⟨a0, a1, b0, b1, _, _, _⟩ := HEN.out
        simp only at a0 a1 b0 b1
        obtain ⟨a, rfl⟩ := Int.eq_ofNat_of_zero_le a0
        obtain ⟨b, rfl⟩ := Int.eq_ofNat_of_zero_le b0
        have hi0 : (0 : Int) ≤ (i : Int) := Int.natCast_nonneg _
        have hi1 : (i : Int) < (len : Int) := by omega
        go_upto_region 10 with (fail)
        obtain ⟨V, hT⟩ := HTW.out
        have h5r : w5.heap.size ≤ wr.heap.size := Nat.le_trans HBB.out HBL.out.size
        have HT7 := Lib.hid (hT.only (S := fun _ => False) ((Only.refl wr _).alloc (.cells #[.int .i64 a, .int .i64 b, .int .i64 xx, .int .i64 y, .int .i64 z] 66)) (fun _ f => f) (fun _ _ f => f))
        have HBL7 := Lib.hid (HBL.out.alloc h5r (.cells #[.int .i64 a, .int .i64 b, .int .i64 xx, .int .i64 y, .int .i64 z] 66))
        have HEX7 := Lib.hid (blk_new wr (.cells #[.int .i64 a, .int .i64 b, .int .i64 xx, .int .i64 y, .int .i64 z] 66))
        have H5R := Lib.hid h5r
        obtain ⟨b6, hb6⟩ : ∃ b6, wr.heap.size = b6 := ⟨_, rfl⟩
        rw [hb6] at HEX7 H5R ⊢
        generalize wr.alloc (.cells #[.int .i64 a, .int .i64 b, .int .i64 xx, .int .i64 y, .int .i64 z] 66) = w7 at HT7 HBL7 HEX7 ⊢
        clear hT h5r hb6 HBR HBL HTW HBT7 HXB7 hlt hlx r0 r1 r2 r3 r4 HEN
        have HBR7 : Hid (Below w4.heap.size w4 w7) := Lib.hid (HB6.out.trans (HBL7.out.mono h45))
        have HBT7 := Lib.hid ((HBL7.out.block _ (blk_lt HBT5.out)).trans HBT6.out)
        have HXB7 := Lib.hid ((HBL7.out.block _ (blk_lt HXB5.out)).trans HXB6.out)
        obtain ⟨adr, rfl, ra⟩ := Kd.at_int (Kd.C_below HC4.out HBR7.out) (a : Int) (by omega) (by omega)
        obtain ⟨adr', hadr, rb⟩ := Kd.at_int (Kd.C_below HC4.out HBR7.out) (b : Int) (by omega) (by omega)
        obtain rfl : adr = adr' := by simpa using hadr
        have ra' : w7.cell? (adr.add a) = some (.int .i64 (rd rank a)) := ra
        have rb' : w7.cell? (adr.add b) = some (.int .i64 (rd rank b)) := rb
        have p0 := (blk_cell HBT7.out 0).trans rfl
        have e0 := (blk_cell HEX7.out 0).trans rfl
        have e1 := (blk_cell HEX7.out 1).trans rfl
        have hlt := blk_lt HBT7.out
        have hle := blk_lt HEX7.out
        have hI : Hid (rd rank a < rd rank b ∨ ¬ rd rank a < rd rank b) := Lib.hid (Classical.em _)
        have HST := HST
        generalize hra : rd rank a = ka at *
        generalize hrb : rd rank b = kb at *
        clear ra rb hadr
        by_cases hx : ka < kb
        · have hd : decide (ka < kb) = true := by simpa using hx
          go_wp2_with fail
          all_goals go_quiet (fail)
          all_goals go_upto_region 11 with (fail)
          have HT8 := Lib.hid (HT7.out.only (S := fun _ => False) ((Only.refl w7 _).drewN nq) (fun _ f => f) (fun _ _ f => f))
          have HBL8 : Hid (Below w5.heap.size wc (w7.drewN nq)) := Lib.hid ⟨HBL7.out.os, HBL7.out.tape, HBL7.out.output, HBL7.out.size, HBL7.out.block⟩
          have HEX8 : Hid ((w7.drewN nq).heap[b6]? = some (.cells #[.int .i64 a, .int .i64 b, .int .i64 xx, .int .i64 y, .int .i64 z] 66 (0, 0))) := Lib.hid HEX7.out
          have HXB8 : Hid ((w7.drewN nq).heap[xb]? = _) := Lib.hid HXB7.out
          generalize w7.drewN nq = w8 at HT8 HBL8 HEX8 HXB8 ⊢
          clear p0 e0 e1 hlt hle ra' rb' HT7 HBL7 HEX7 HXB7 HBT7 HBR7 hI
          have e0 := (blk_cell HEX8.out 0).trans rfl
          have e1 := (blk_cell HEX8.out 1).trans rfl
          have e2 := (blk_cell HEX8.out 2).trans rfl
          have hle := blk_lt HEX8.out
          have x4 := (blk_cell HXB8.out 4).trans rfl
          have hlx := blk_lt HXB8.out
          have ha0 : (0 : Int) ≤ (a : Int) := Int.natCast_nonneg _
          have ha1 : (a : Int) < (n : Int) := a1
          have c8 := (HT8.out.cellOf true a (by omega)).1
          simp only [if_true] at c8
          obtain ⟨va, hva⟩ : ∃ va, (V true).getD a (.slice none 0 0) = va := ⟨_, rfl⟩
          rw [hva] at c8
          have HVA := Lib.hid hva
          clear hva
          have HER : Hid (EdgeRow w8.drew w5.heap.size va ((buildB rank ways n i true).getD a [])) := Lib.hid (by rw [← HVA.out]; exact (HT8.out.row true a (by omega)).only (S := fun _ => False) ⟨rfl, rfl, rfl, Nat.le_refl _, fun _ _ _ => rfl⟩ (fun _ _ f => f))
          have HCALL := Lib.hid (hput_walk w8.drew w5.heap.size va ((buildB rank ways n i true).getD a []) ⟨b, xx, i⟩ HER.out (by have h1 := HBB.out; have h2 := HBL8.out.size; show _ ≤ w8.heap.size; omega) (by have := buildB_len rank ways n i true a; omega))
          have HAFT : Hid (∀ w9 v', PutTo w8.drew w9 w5.heap.size va v' (putP ((buildB rank ways n i true).getD a []) ⟨b, xx, i⟩) →
              w9.cell? ⟨xb, 4, none⟩ = some (.slice (some ⟨u, 0, none⟩) n n) ∧ w9.cell? ⟨b6, 0, none⟩ = some (.int .i64 a) ∧ w9.cell? ⟨b6, 1, none⟩ = some (.int .i64 b) ∧ w9.cell? ⟨b6, 2, none⟩ = some (.int .i64 xx) ∧ w9.cell? ⟨u, a, none⟩ = some va ∧ w9.frozen? ⟨u, a, none⟩ = false ∧ u < w9.heap.size ∧ xb < w9.heap.size ∧ b6 < w9.heap.size ∧
              Hid (Below w5.heap.size wc (w9.setCell ⟨u, a, none⟩ v')) ∧ Hid (∃ V, Two (w9.setCell ⟨u, a, none⟩ v') w5.heap.size w5.heap.size (fun b => if b = true then u else d) n V (updB (buildB rank ways n i) true ((buildB rank ways n i true).set a (putP ((buildB rank ways n i true).getD a []) ⟨b, xx, i⟩))))) := Lib.hid (by
            intro w9 v' hP
            have hO : Only w8 w9 (fun k => ((V true).getD a (.slice none 0 0)).ownBlock = some k) := by rw [HVA.out]; exact ((Only.refl w8 (fun k => va.ownBlock = some k)).drew).trans (hP.2.1.mono (fun k _ hk _ => hk))
            have hlo : ∀ k, ((V true).getD a (.slice none 0 0)).ownBlock = some k → w5.heap.size ≤ k := fun k hk => (World.ownsRow.lt (HT8.out.row true a (by omega)) k hk).1
            have hx9 := (hO.block xb (blk_lt HXB8.out) (fun e => by have h1 := hlo _ e; have h2 := blk_lt HXB5.out; omega)).trans HXB8.out
            have hb9 := (hO.block b6 (blk_lt HEX8.out) (fun e => by
              obtain ⟨cells, hc⟩ := own_typed (HT8.out.row true a (by omega)) _ e
              exact ne_typed hc HEX8.out (by decide) rfl)).trans HEX8.out
            obtain ⟨g1, g2, g3⟩ := HT8.out.held true a (by omega) hO true a (by omega)
            rw [HVA.out] at g1
            have hBw9 : Below w5.heap.size wc w9 := HBL8.out.trans (Only.below hO (Nat.le_trans HBB.out HBL8.out.size) (fun k hk => hlo k hk))
            refine ⟨(blk_cell hx9 4).trans rfl, (blk_cell hb9 0).trans rfl, (blk_cell hb9 1).trans rfl, (blk_cell hb9 2).trans rfl, g1, g2, g3, blk_lt hx9, blk_lt hb9, Lib.hid (hBw9.setCell (p := ⟨u, a, none⟩) HUD.out.1 v'), Lib.hid ⟨_, HT8.out.put true a (by omega) v' _ hP.1 hO (fun k hk hv => by rw [HVA.out]; exact hP.2.2 k hk hv)⟩⟩)
          have HNEXT : Hid (buildB rank ways n (i + 1) = updB (buildB rank ways n i) true ((buildB rank ways n i true).set a (putP ((buildB rank ways n i true).getD a []) ⟨b, xx, i⟩))) := Lib.hid (HST.out.trans (if_pos (by show rd rank a < rd rank b; rw [hra, hrb]; exact hx)))
          clear HER
          have hxu : xb ≠ u := by have := HUD.out.1; have := blk_lt HXB5.out; omega
          have hbu : b6 ≠ u := by
            obtain ⟨cur, hg⟩ := own_blk (HT8.out.own true)
            exact ne_typed HEX8.out hg (by decide)
          go_region_held3 (fun w' => w'.cell? ⟨xb, 4, none⟩ = some (.slice (some ⟨u, 0, none⟩) n n) ∧ w'.cell? ⟨b6, 0, none⟩ = some (.int .i64 a) ∧ w'.cell? ⟨b6, 1, none⟩ = some (.int .i64 b) ∧ w'.cell? ⟨b6, 2, none⟩ = some (.int .i64 xx)) (first | go_keep | exact ⟨y1, y2, z1, z2⟩ | (refine ⟨?_, ?_, ?_, ?_⟩ <;> (rw [World.cell?_setCell_other _ _ _ _ (by first | (simp; done) | (simp; omega))]; assumption)))
            (first | (go_at_call 32; refine HCALL.out.mono ?_; rintro _ w9 ⟨v', rfl, hP⟩; obtain ⟨A', c', hv', _, _⟩ := EdgeRow.C hP.1; obtain ⟨y1, y2, z1, z2, y3, y4, y5, y6, y7, Y8, Y9⟩ := HAFT.out w9 v' hP; clear hP; generalize (putP _ _).length = m' at hv'; subst hv'))
          all_goals (try go_wp2_with fail)
          go_roundw
          case measure => simp [intOf]; omega
          case rel => exact ⟨i + 1, by go_num, by omega, Lib.hid (by rw [HNEXT.out]; exact Y9.out), Y8⟩
        · have hd : decide (ka < kb) = false := by simpa using hx
          go_wp2_with fail
          all_goals go_quiet (fail)
          all_goals go_upto_region 12 with (fail)
          have HT8 := Lib.hid (HT7.out.only (S := fun _ => False) ((Only.refl w7 _).drewN nq) (fun _ f => f) (fun _ _ f => f))
          have HBL8 : Hid (Below w5.heap.size wc (w7.drewN nq)) := Lib.hid ⟨HBL7.out.os, HBL7.out.tape, HBL7.out.output, HBL7.out.size, HBL7.out.block⟩
          have HEX8 : Hid ((w7.drewN nq).heap[b6]? = some (.cells #[.int .i64 a, .int .i64 b, .int .i64 xx, .int .i64 y, .int .i64 z] 66 (0, 0))) := Lib.hid HEX7.out
          have HXB8 : Hid ((w7.drewN nq).heap[xb]? = _) := Lib.hid HXB7.out
          generalize w7.drewN nq = w8 at HT8 HBL8 HEX8 HXB8 ⊢
          clear p0 e0 e1 hlt hle ra' rb' HT7 HBL7 HEX7 HXB7 HBT7 HBR7 hI
          have e0 := (blk_cell HEX8.out 0).trans rfl
          have e1 := (blk_cell HEX8.out 1).trans rfl
          have e2 := (blk_cell HEX8.out 2).trans rfl
          have hle := blk_lt HEX8.out
          have x4 := (blk_cell HXB8.out 5).trans rfl
          have hlx := blk_lt HXB8.out
          have ha0 : (0 : Int) ≤ (b : Int) := Int.natCast_nonneg _
          have ha1 : (b : Int) < (n : Int) := b1
          have c8 := (HT8.out.cellOf false b (by omega)).1
          simp only [Bool.false_eq_true, if_false] at c8
          obtain ⟨va, hva⟩ : ∃ va, (V false).getD b (.slice none 0 0) = va := ⟨_, rfl⟩
          rw [hva] at c8
          have HVA := Lib.hid hva
          clear hva
          have HER : Hid (EdgeRow w8.drew w5.heap.size va ((buildB rank ways n i false).getD b [])) := Lib.hid (by rw [← HVA.out]; exact (HT8.out.row false b (by omega)).only (S := fun _ => False) ⟨rfl, rfl, rfl, Nat.le_refl _, fun _ _ _ => rfl⟩ (fun _ _ f => f))
          have HCALL := Lib.hid (hput_walk w8.drew w5.heap.size va ((buildB rank ways n i false).getD b []) ⟨a, xx, i⟩ HER.out (by have h1 := HBB.out; have h2 := HBL8.out.size; show _ ≤ w8.heap.size; omega) (by have := buildB_len rank ways n i false b; omega))
          have HAFT : Hid (∀ w9 v', PutTo w8.drew w9 w5.heap.size va v' (putP ((buildB rank ways n i false).getD b []) ⟨a, xx, i⟩) →
              w9.cell? ⟨xb, 5, none⟩ = some (.slice (some ⟨d, 0, none⟩) n n) ∧ w9.cell? ⟨b6, 0, none⟩ = some (.int .i64 a) ∧ w9.cell? ⟨b6, 1, none⟩ = some (.int .i64 b) ∧ w9.cell? ⟨b6, 2, none⟩ = some (.int .i64 xx) ∧ w9.cell? ⟨d, b, none⟩ = some va ∧ w9.frozen? ⟨d, b, none⟩ = false ∧ d < w9.heap.size ∧ xb < w9.heap.size ∧ b6 < w9.heap.size ∧
              Hid (Below w5.heap.size wc (w9.setCell ⟨d, b, none⟩ v')) ∧ Hid (∃ V, Two (w9.setCell ⟨d, b, none⟩ v') w5.heap.size w5.heap.size (fun b => if b = true then u else d) n V (updB (buildB rank ways n i) false ((buildB rank ways n i false).set b (putP ((buildB rank ways n i false).getD b []) ⟨a, xx, i⟩))))) := Lib.hid (by
            intro w9 v' hP
            have hO : Only w8 w9 (fun k => ((V false).getD b (.slice none 0 0)).ownBlock = some k) := by rw [HVA.out]; exact ((Only.refl w8 (fun k => va.ownBlock = some k)).drew).trans (hP.2.1.mono (fun k _ hk _ => hk))
            have hlo : ∀ k, ((V false).getD b (.slice none 0 0)).ownBlock = some k → w5.heap.size ≤ k := fun k hk => (World.ownsRow.lt (HT8.out.row false b (by omega)) k hk).1
            have hx9 := (hO.block xb (blk_lt HXB8.out) (fun e => by have h1 := hlo _ e; have h2 := blk_lt HXB5.out; omega)).trans HXB8.out
            have hb9 := (hO.block b6 (blk_lt HEX8.out) (fun e => by
              obtain ⟨cells, hc⟩ := own_typed (HT8.out.row false b (by omega)) _ e
              exact ne_typed hc HEX8.out (by decide) rfl)).trans HEX8.out
            obtain ⟨g1, g2, g3⟩ := HT8.out.held false b (by omega) hO false b (by omega)
            rw [HVA.out] at g1
            have hBw9 : Below w5.heap.size wc w9 := HBL8.out.trans (Only.below hO (Nat.le_trans HBB.out HBL8.out.size) (fun k hk => hlo k hk))
            refine ⟨(blk_cell hx9 5).trans rfl, (blk_cell hb9 0).trans rfl, (blk_cell hb9 1).trans rfl, (blk_cell hb9 2).trans rfl, g1, g2, g3, blk_lt hx9, blk_lt hb9, Lib.hid (hBw9.setCell (p := ⟨d, b, none⟩) HUD.out.2.1 v'), Lib.hid ⟨_, HT8.out.put false b (by omega) v' _ hP.1 hO (fun k hk hv => by rw [HVA.out]; exact hP.2.2 k hk hv)⟩⟩)
          have HNEXT : Hid (buildB rank ways n (i + 1) = updB (buildB rank ways n i) false ((buildB rank ways n i false).set b (putP ((buildB rank ways n i false).getD b []) ⟨a, xx, i⟩))) := Lib.hid (HST.out.trans (if_neg (by show ¬ rd rank a < rd rank b; rw [hra, hrb]; omega)))
          clear HER
          have hxu : xb ≠ d := by have := HUD.out.2.1; have := blk_lt HXB5.out; omega
          have hbu : b6 ≠ d := by
            obtain ⟨cur, hg⟩ := own_blk (HT8.out.own false)
            exact ne_typed HEX8.out hg (by decide)
          go_region_held3 (fun w' => w'.cell? ⟨xb, 5, none⟩ = some (.slice (some ⟨d, 0, none⟩) n n) ∧ w'.cell? ⟨b6, 0, none⟩ = some (.int .i64 a) ∧ w'.cell? ⟨b6, 1, none⟩ = some (.int .i64 b) ∧ w'.cell? ⟨b6, 2, none⟩ = some (.int .i64 xx)) (first | go_keep | exact ⟨y1, y2, z1, z2⟩ | (refine ⟨?_, ?_, ?_, ?_⟩ <;> (rw [World.cell?_setCell_other _ _ _ _ (by first | (simp; done) | (simp; omega))]; assumption)))
            (first | (go_at_call 32; refine HCALL.out.mono ?_; rintro _ w9 ⟨v', rfl, hP⟩; obtain ⟨A', c', hv', _, _⟩ := EdgeRow.C hP.1; obtain ⟨y1, y2, z1, z2, y3, y4, y5, y6, y7, Y8, Y9⟩ := HAFT.out w9 v' hP; clear hP; generalize (putP _ _).length = m' at hv'; subst hv'))
          all_goals (try go_wp2_with fail)
          go_roundw
          case measure => simp [intOf]; omega
          case rel => exact ⟨i + 1, by go_num, by omega, Lib.hid (by rw [HNEXT.out]; exact Y9.out), Y8⟩
      · have HIL : Hid (i = len) := Lib.hid (by omega)
        go_wp2_with fail
        go_ret
        obtain ⟨V, hT⟩ := HTW.out
        rw [HIL.out] at hT
        have hgx : g ≠ xb := by
          obtain ⟨cur, hg⟩ := own_blk (show w5.ownsRow w4.heap.size 3 1 _ n (ints x) from HC5.out.own)
          exact ne_typed hg HXB5.out (by decide)
        have hg5 : g < w5.heap.size := (World.ownsRow.lt (show w5.ownsRow w4.heap.size 3 1 _ n (ints x) from HC5.out.own) g rfl).2
        have hat0 : wr.ownsRow w4.heap.size 3 1 (.slice (some ⟨g, 0, none⟩) n n) n (ints x) := own_only (own_only (show w5.ownsRow w4.heap.size 3 1 _ n (ints x) from HC5.out.own) HO6.out (fun k hk e => by cases hk; exact hgx e)) (Only.of_belowB HBL.out) (fun k hk e => by cases hk; have e' : w5.heap.size ≤ g := e; omega)
        have hxl : x.length = n := OwnI.len (w := wr) (B := w4.heap.size) (g := g) hat0
        have hAT : Kd.C (Kd.int .i64) wr (some ⟨g, 0, none⟩) n x := by
          have h1 : Kd.R (Kd.int .i64) 3 wr w4.heap.size (fun _ => True) (.slice (some ⟨g, 0, none⟩) n n) x := Kd.R_of_own (by rw [hxl]; exact hat0) (fun _ _ => trivial)
          have h2 := (Kd.R_reads' h1).2.2
          rw [hxl] at h2
          exact h2
        have hlen : ∀ b, ∀ l ∈ buildB rank ways n len b, l.length ≤ 100000000 := fun b l hl => by
          obtain ⟨j, hj, rfl⟩ := List.getElem_of_mem hl
          have := buildB_len rank ways n len b j
          rw [List.getD, List.getElem?_eq_getElem hj] at this
          have h3 : (buildB rank ways n len b)[j].length ≤ len := this
          omega
        refine ⟨xb, x, rfl, ⟨⟨A1, c1, .slice A2 len c2, some ⟨g, 0, none⟩, n, .map (some mb), some ⟨u, 0, none⟩, n, some ⟨d, 0, none⟩, n, HXB7.out, Kd.C_below HC4.out HBR.out, hAT, hT.C true (by omega), hT.C false (by omega)⟩, hn, hlen true, hlen false⟩, HC5.out.inv, HB4.out.trans (HBR.out.mono HB4.out.size)⟩
end Go.Proofs.Ytfkejflmhidnaaa.PAll
