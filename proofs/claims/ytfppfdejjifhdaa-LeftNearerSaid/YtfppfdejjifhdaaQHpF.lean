import Derived.Test.YtfppfdejjifhdaaQHpA0
import Derived.IntWalk
namespace Go.Proofs.Ytfppfdejjifhdaa.PAll
open Go.RowKit Go.Proofs.YtfppfdejjifhdaaW.PrintWords Go.Proofs.YtfppfdejjifhdaaW.PrintLast Go.Proofs.YtfppfdejjifhdaaW.PrintMore
open Hp
set_option linter.unusedVariables false
set_option linter.unusedSimpArgs false

theorem before_f (e f : E) : heap_entry_int_before.f 5 e.id e.key f.id f.key = some (before e f) := by
  have hc : ∀ a b : Int, cmp_Compare_int.f a b = some (if a < b then -1 else if a > b then 1 else 0) := fun a b => by
    unfold cmp_Compare_int.f cmp_isNaN_int.f
    simp only [bne_self_eq_false, Option.bind_some, Bool.false_eq_true, if_false]
    split
    · rfl
    · split <;> rfl
  have ho : ∀ a b : Int, cmp_Or_int.f 5 [a, b] = some (if a = 0 then b else a) := fun a b => by
    unfold cmp_Or_int.f
    rw [cmp_Or_int.l0]
    simp only [rd, wrap64, List.length_cons, List.length_nil, cmp_Or_int.l0]
    by_cases h : a = 0
    · subst h
      by_cases g : b = 0
      · subst g; simp
      · simp [g]
    · simp [h]
  unfold heap_entry_int_before.f
  rw [hc, hc]
  simp only [Option.bind_some]
  rw [ho]
  simp only [Option.bind_some, before]
  congr 1
  rw [decide_eq_decide]
  split <;> split <;> (try split) <;> omega

theorem before_any (e f : E) (w : World) : Calls Try.prog 54 #[.agg #[.int .i64 e.id, .int .i64 e.key], .agg #[.int .i64 f.id, .int .i64 f.key]] w fun r w' => r = .returned (.bool (before e f)) ∧ Below w.heap.size w w' :=
  heap_entry_int_before.calls 5 e.id e.key f.id f.key _ w (before_f e f)

/-- which entries are places -/
def IdsIn (n : Nat) (l : List E) : Prop := ∀ j, j < l.length → 0 ≤ (nth l j).id ∧ (nth l j).id < n
theorem IdsIn.set {n : Nat} {l : List E} (h : IdsIn n l) (i : Nat) (e : E) (h0 : 0 ≤ e.id) (h1 : e.id < n) : IdsIn n (l.set i e) := by
  intro j hj
  rw [List.length_set] at hj
  by_cases hi : i = j
  · subst hi; rw [nth_set_same _ _ _ hj]; exact ⟨h0, h1⟩
  · rw [nth_set_other _ _ _ _ hi]; exact h j hj

theorem i64w {x y : Int} (h : x = y) (h0 : -9223372036854775808 ≤ y) (h1 : y ≤ 9223372036854775807) : IntKind.i64.wrap x = y := by
  rw [i64_w]; unfold wrap64; omega
theorem ids_lay {n : Nat} {q : Q} (h : IdsIn n q.l) (i : Nat) (e : E) (h0 : 0 ≤ e.id) (h1 : e.id < n) : IdsIn n (lay q i e).l := h.set i e h0 h1

theorem exit_rise {e x : E} {f i p : Nat} {q : Q} (h0 : 0 < i) (hp : (i - 1) / 2 = p) (hx : nth q.l p = x) (hb : before e x = false) : riseGo e f q i = lay q i e := by
  cases f with
  | zero => rfl
  | succ f => rw [riseGo, hp, hx, hb, if_neg (by simp)]
theorem exit_rise0 {e : E} {f i : Nat} {q : Q} (h0 : ¬ 0 < i) : riseGo e f q i = lay q i e := by
  cases f with
  | zero => rfl
  | succ f => rw [riseGo, if_neg (by omega)]
/-- a round's state -/
structure Round (w : World) (eb : Nat) (B hb n m lb lc pb pc : Nat) (e : E) (q : Q) (wr : World) : Prop where
  rep : HRep wr B hb n (.slice (some ⟨lb, 0, none⟩) m lc) (.slice (some ⟨pb, 0, none⟩) n pc) q
  len : q.l.length = m
  ids : IdsIn n q.l
  only : Only w wr (HS hb (.slice (some ⟨lb, 0, none⟩) m lc) (.slice (some ⟨pb, 0, none⟩) n pc))
  box : wr.heap[eb]? = some (.cells #[.int .i64 e.id, .int .i64 e.key] 90 (0, 0))
  new : w.heap.size ≤ eb

theorem Round.facts {w : World} {eb B hb n m lb lc pb pc : Nat} {e : E} {q : Q} {wr : World} (h : Round w eb B hb n m lb lc pb pc e q wr) :
    wr.cell? ⟨hb, 0, none⟩ = some (.slice (some ⟨lb, 0, none⟩) m lc) ∧ wr.cell? ⟨hb, 1, none⟩ = some (.slice (some ⟨pb, 0, none⟩) n pc) ∧ hb < wr.heap.size ∧ wr.cell? ⟨eb, 0, none⟩ = some (.int .i64 e.id) ∧ wr.cell? ⟨eb, 1, none⟩ = some (.int .i64 e.key) ∧ eb < wr.heap.size :=
  ⟨h.rep.cells.1, h.rep.cells.2.1, h.rep.cells.2.2.2.2, (blk_cell h.box 0).trans rfl, (blk_cell h.box 1).trans rfl, blk_lt h.box⟩
theorem Round.entry {w : World} {eb B hb n m lb lc pb pc : Nat} {e : E} {q : Q} {wr : World} (h : Round w eb B hb n m lb lc pb pc e q wr) (i : Nat) (hi : i < m) (hn : 0 < n) :
    wr.cell? ⟨lb, i * 2, none⟩ = some (.int .i64 (nth q.l i).id) ∧ wr.cell? ⟨lb, i * 2 + 1, none⟩ = some (.int .i64 (nth q.l i).key) ∧ lb < wr.heap.size ∧ 0 ≤ (nth q.l i).id ∧ (nth q.l i).id < n := by
  have hl := h.len
  obtain ⟨lb', lc', pb', pc', e1, _, e2, _, l1, _, _, _, _, _, _, d, _⟩ := h.rep.forms (by omega) hn
  simp only [Value.slice.injEq, Option.some.injEq, Addr.mk.injEq, and_true] at e1
  obtain ⟨rfl, _⟩ := e1
  exact ⟨(d i (by omega)).1, (d i (by omega)).2, l1, (h.ids i (by omega)).1, (h.ids i (by omega)).2⟩
theorem Round.below {w : World} {eb B hb n m lb lc pb pc : Nat} {e : E} {q : Q} {wr w1 : World} (h : Round w eb B hb n m lb lc pb pc e q wr) (hb1 : Below wr.heap.size wr w1) : Round w eb B hb n m lb lc pb pc e q w1 :=
  ⟨h.rep.only (Only.of_below hb1 (fun _ => False)) (fun _ _ f => f), h.len, h.ids, h.only.trans (Only.of_below hb1 _), (hb1.block eb (blk_lt h.box)).trans h.box, h.new⟩
theorem Round.lay {w : World} {eb B hb n m lb lc pb pc : Nat} {e : E} {q : Q} {wr w1 : World} (h : Round w eb B hb n m lb lc pb pc e q wr) (i : Nat) (x : E) (h0 : 0 ≤ x.id) (h1 : x.id < n)
    (g : HStep wr B hb n (.slice (some ⟨lb, 0, none⟩) m lc) (.slice (some ⟨pb, 0, none⟩) n pc) (Hp.lay q i x) w1) (hne : ¬ HS hb (.slice (some ⟨lb, 0, none⟩) m lc) (.slice (some ⟨pb, 0, none⟩) n pc) eb) : Round w eb B hb n m lb lc pb pc e (Hp.lay q i x) w1 :=
  ⟨g.1, by rw [lay_len]; exact h.len, ids_lay h.ids i x h0 h1, h.only.trans (g.2.mono (fun k _ hk _ => hk)), (g.2.block eb (blk_lt h.box) hne).trans h.box, h.new⟩

set_option maxRecDepth 100000 in
set_option maxHeartbeats 1000000 in
theorem rise_walk (w : World) (B hb n : Nat) (lv pv : Value) (q : Q) (h : HRep w B hb n lv pv q) (hids : IdsIn n q.l) (i : Nat) (hi : i < q.l.length) :
    Calls Try.prog 49 #[.pointer (some ⟨hb, 0, none⟩), .int .i64 i] w fun r w' => r = .returned (.tuple #[]) ∧ HStep w B hb n lv pv (rise q i) w' := by
  have hid := hids i hi
  have hsw := h.hs
  obtain ⟨lb, lc, pb, pc, rfl, hlc, rfl, hpc, l1, l2, n0, n1, n2, f0, f1, dl, dp⟩ := h.forms (by omega) (by omega)
  obtain ⟨c0, c1, g0, g1, l0⟩ := h.cells
  obtain ⟨d0, d1⟩ := dl i hi
  have hs2 := h.lsmall
  have hn : 0 < n := by omega
  unfold rise
  generalize nth q.l i = e at *
  obtain ⟨a, k⟩ := e
  simp only at d0 d1 hid
  obtain ⟨m, hm⟩ : ∃ m, q.l.length = m := ⟨_, rfl⟩
  rw [hm] at c0 hi hs2 hlc h hsw ⊢
  have H0 : Hid (Round w w.heap.size B hb n m lb lc pb pc ⟨a, k⟩ q (w.alloc (.cells #[.int .i64 a, .int .i64 k] 90))) :=
    Lib.hid ⟨h.only ((Only.refl w (fun _ => False)).alloc _) (fun _ _ f => f), hm, hids, (Only.refl w _).alloc _, blk_new w _, Nat.le_refl _⟩
  have HN : Hid (¬ HS hb (.slice (some ⟨lb, 0, none⟩) m lc) (.slice (some ⟨pb, 0, none⟩) n pc) w.heap.size) := Lib.hid (fun f => by have := (hsw _ f).2; omega)
  clear h hm dl dp hids hsw
  go_enter Try.func49, Try.ntmps49
  go_wp2
  clear d0 d1 c0 c1 f0 f1 g0 g1 l0 l1 l2
  go_loopw [1] (fun v1 wr => ∃ (i' f : Nat) (q' : Q), v1 = .int .i64 i' ∧ i' < m ∧ i' ≤ f ∧ Hid (riseGo ⟨a, k⟩ f q' i' = riseGo ⟨a, k⟩ i q i) ∧ Hid (Round w w.heap.size B hb n m lb lc pb pc ⟨a, k⟩ q' wr)) (fun v1 _ => (intOf v1).toNat)
  case atStart => exact ⟨i, i, q, rfl, hi, Nat.le_refl _, Lib.hid rfl, H0⟩
  case round =>
    obtain ⟨i', f, q', rfl, hi', hf, HE, HR⟩ := hrel
    clear H0
    obtain ⟨c0, c1, l0, e0, e1, l3⟩ := HR.out.facts
    by_cases hp : 0 < i'
    · obtain ⟨j, hj⟩ : ∃ j, i' - 1 = j := ⟨_, rfl⟩
      obtain ⟨p, hpj⟩ : ∃ p, j / 2 = p := ⟨_, rfl⟩
      have hpm : p < m := by omega
      obtain ⟨d0, d1, l1, d2, d3⟩ := HR.out.entry p hpm hn
      have HP : Hid ((i' - 1) / 2 = p) := Lib.hid (by omega)
      generalize hx : nth q'.l p = x at *
      obtain ⟨a', k'⟩ := x
      have HX := Lib.hid hx
      simp only at d0 d1 d2 d3
      clear hx
      have hw1 : IntKind.i64.wrap ((i' : Int) - 1) = (j : Int) := i64w (by omega) (by omega) (by omega)
      cases hbf : before ⟨a, k⟩ ⟨a', k'⟩ with
      | true =>
        have HB := Lib.hid hbf
        clear hbf
        go_upto_if 1 with (fail)
        go_cut [26] (fun v26 wc => v26 = .bool true ∧ Hid (Round w w.heap.size B hb n m lb lc pb pc ⟨a, k⟩ q' wc))
        case first =>
          have HR1 : Hid (Round w w.heap.size B hb n m lb lc pb pc ⟨a, k⟩ q' wr.drew) := Lib.hid (HR.out.below (Below.refl _ _).drew)
          have hd : decide ((0 : Int) < (i' : Int)) = true := by simpa using hp
          have hp0 : (0 : Int) ≤ (p : Int) := Int.natCast_nonneg _
          have hp1 : (p : Int) < (m : Int) := by omega
          have hw2 : IntKind.i64.wrap ((j : Int).tdiv 2) = (p : Int) := i64w (by rw [Int.tdiv_eq_ediv_of_nonneg (by omega)]; omega) (by omega) (by omega)
          have hw3 : IntKind.i64.wrap (p : Int) = (p : Int) := i64w rfl (by omega) (by omega)
          have hw4 : (j : Int).tdiv 2 = (p : Int) := by rw [Int.tdiv_eq_ediv_of_nonneg (by omega)]; omega
          have hw5 : (j : Int) / 2 = (p : Int) := by omega
          clear hj hpj
          go_region_held3 (fun w' => w'.cell? ⟨hb, 0, none⟩ = some (.slice (some ⟨lb, 0, none⟩) m lc) ∧ w'.cell? ⟨w.heap.size, 0, none⟩ = some (.int .i64 a) ∧ w'.cell? ⟨w.heap.size, 1, none⟩ = some (.int .i64 k) ∧ w'.cell? ⟨lb, p * 2, none⟩ = some (.int .i64 a') ∧ w'.cell? ⟨lb, p * 2 + 1, none⟩ = some (.int .i64 k')) (first | go_keep | (refine ⟨?_, ?_, ?_, ?_, ?_⟩ <;> (rw [hB1.cell (by simp; omega)]; assumption)))
            (first | (go_at_call 54; refine (before_any ⟨a, k⟩ ⟨a', k'⟩ _).mono ?_; rintro e w1 ⟨rfl, hB1⟩; rw [HB.out]))
          all_goals (try go_wp2_with fail)
          all_goals go_meet
          all_goals exact ⟨rfl, Lib.hid (HR1.out.below hB1)⟩
        case rest =>
          obtain ⟨rfl, HR2⟩ := hcut
          clear c0 c1 e0 e1 l3 d0 d1 l0 l1
          obtain ⟨c0, c1, l0, e0, e1, l3⟩ := HR2.out.facts
          obtain ⟨d0, d1, l1, _, _⟩ := HR2.out.entry p hpm hn
          rw [HX.out] at d0 d1
          simp only at d0 d1
          have hp0 : (0 : Int) ≤ (p : Int) := Int.natCast_nonneg _
          have hp1 : (p : Int) < (m : Int) := by omega
          have hv1 : (i' : Int) - 1 = (j : Int) := by omega
          have hv2 : (j : Int) / 2 = (p : Int) := by omega
          have HJ := Lib.hid hj
          have HJ2 := Lib.hid hpj
          clear hj hpj
          go_wp2_with (go_at_call 47; refine (lay_walk _ B hb n _ _ q' (HR2.out.rep) i' a' k' (by rw [HR2.out.len]; exact hi') d2 d3).mono ?_; rintro e w1 ⟨rfl, hS⟩; have HR3 := Lib.hid (HR2.out.lay i' ⟨a', k'⟩ d2 d3 hS HN.out); clear hS)
          have HF : Hid (∃ f', f = f' + 1) := Lib.hid ⟨f - 1, by omega⟩
          go_roundw
          case rel =>
            obtain ⟨f', hf'⟩ := HF.out
            refine ⟨p, f', lay q' i' ⟨a', k'⟩, rfl, hpm, by have := HJ.out; have := HJ2.out; omega, Lib.hid ?_, HR3⟩
            rw [← HE.out, hf', riseGo, HP.out, HX.out, if_pos ⟨hp, HB.out⟩]
          case measure => have := HJ.out; have := HJ2.out; simp [intOf]; omega
      | false =>
        have HB := Lib.hid hbf
        clear hbf
        go_upto_if 1 with (fail)
        go_cut [26] (fun v26 wc => v26 = .bool false ∧ Hid (Round w w.heap.size B hb n m lb lc pb pc ⟨a, k⟩ q' wc))
        case first =>
          have HR1 : Hid (Round w w.heap.size B hb n m lb lc pb pc ⟨a, k⟩ q' wr.drew) := Lib.hid (HR.out.below (Below.refl _ _).drew)
          have hd : decide ((0 : Int) < (i' : Int)) = true := by simpa using hp
          have hp0 : (0 : Int) ≤ (p : Int) := Int.natCast_nonneg _
          have hp1 : (p : Int) < (m : Int) := by omega
          have hw2 : IntKind.i64.wrap ((j : Int).tdiv 2) = (p : Int) := i64w (by rw [Int.tdiv_eq_ediv_of_nonneg (by omega)]; omega) (by omega) (by omega)
          have hw3 : IntKind.i64.wrap (p : Int) = (p : Int) := i64w rfl (by omega) (by omega)
          have hw4 : (j : Int).tdiv 2 = (p : Int) := by rw [Int.tdiv_eq_ediv_of_nonneg (by omega)]; omega
          have hw5 : (j : Int) / 2 = (p : Int) := by omega
          clear hj hpj
          go_region_held3 (fun w' => w'.cell? ⟨hb, 0, none⟩ = some (.slice (some ⟨lb, 0, none⟩) m lc) ∧ w'.cell? ⟨w.heap.size, 0, none⟩ = some (.int .i64 a) ∧ w'.cell? ⟨w.heap.size, 1, none⟩ = some (.int .i64 k) ∧ w'.cell? ⟨lb, p * 2, none⟩ = some (.int .i64 a') ∧ w'.cell? ⟨lb, p * 2 + 1, none⟩ = some (.int .i64 k')) (first | go_keep | (refine ⟨?_, ?_, ?_, ?_, ?_⟩ <;> (rw [hB1.cell (by simp; omega)]; assumption)))
            (first | (go_at_call 54; refine (before_any ⟨a, k⟩ ⟨a', k'⟩ _).mono ?_; rintro e w1 ⟨rfl, hB1⟩; rw [HB.out]))
          all_goals (try go_wp2_with fail)
          all_goals go_meet
          all_goals exact ⟨rfl, Lib.hid (HR1.out.below hB1)⟩
        case rest =>
          obtain ⟨rfl, HR2⟩ := hcut
          clear c0 c1 e0 e1 l3 d0 d1 l1 l0
          obtain ⟨c0, c1, l0, e0, e1, l3⟩ := HR2.out.facts
          go_wp2_with (go_at_call 47; refine (lay_walk _ B hb n _ _ q' (HR2.out.rep) i' a k (by rw [HR2.out.len]; exact hi') hid.1 hid.2).mono ?_; rintro e w1 ⟨rfl, hS⟩; have HR3 := Lib.hid (HR2.out.lay i' ⟨a, k⟩ hid.1 hid.2 hS HN.out); clear hS)
          go_end0
          refine ⟨rfl, ?_⟩
          rw [← HE.out, exit_rise hp HP.out HX.out HB.out]
          exact ⟨HR3.out.rep, HR3.out.only⟩
    · have HP := Lib.hid hp
      have hd : decide ((0 : Int) < (i' : Int)) = false := by simpa using hp
      have hd2 : decide (0 < i') = false := by simpa using hp
      clear hp
      go_upto_if 1 with (fail)
      go_cut [26] (fun v26 wc => v26 = .bool false ∧ Hid (Round w w.heap.size B hb n m lb lc pb pc ⟨a, k⟩ q' wc))
      case first =>
        go_quiet (fail)
        go_wp2_with fail
        go_meet
        exact ⟨rfl, Lib.hid (HR.out.below (pw_below_drewN (Below.refl _ _) _))⟩
      case rest =>
        obtain ⟨rfl, HR2⟩ := hcut
        clear c0 c1 e0 e1 l3 l0
        obtain ⟨c0, c1, l0, e0, e1, l3⟩ := HR2.out.facts
        go_wp2_with (go_at_call 47; refine (lay_walk _ B hb n _ _ q' (HR2.out.rep) i' a k (by rw [HR2.out.len]; exact hi') hid.1 hid.2).mono ?_; rintro e w1 ⟨rfl, hS⟩; have HR3 := Lib.hid (HR2.out.lay i' ⟨a, k⟩ hid.1 hid.2 hS HN.out); clear hS)
        go_end0
        refine ⟨rfl, ?_⟩
        rw [← HE.out, exit_rise0 HP.out]
        exact ⟨HR3.out.rep, HR3.out.only⟩
end Go.Proofs.Ytfppfdejjifhdaa.PAll

namespace Go.Proofs.Ytfppfdejjifhdaa.PAll
open Go.RowKit Go.Proofs.YtfppfdejjifhdaaW.PrintWords Go.Proofs.YtfppfdejjifhdaaW.PrintLast Go.Proofs.YtfppfdejjifhdaaW.PrintMore
open Hp
set_option linter.unusedVariables false
set_option linter.unusedSimpArgs false

theorem kid_yes {l : List E} {i p p2 m : Nat} {b : Bool} {x y : E} (hl : l.length = m) (hp : 2 * i + 1 = p) (h2 : p2 < m) (hx : nth l p2 = x) (hy : nth l p = y) (hb : before x y = b) (hp2 : p + 1 = p2) : kid l i = if b = true then p2 else p := by
  subst hp; subst hp2; subst hx; subst hy; subst hb
  unfold kid
  rw [hl]
  cases h : before (nth l (2 * i + 1 + 1)) (nth l (2 * i + 1)) with
  | true => rw [if_pos ⟨h2, rfl⟩, if_pos rfl]
  | false => rw [if_neg (fun f => by cases f.2), if_neg (by decide)]
theorem kid_no {l : List E} {i p m : Nat} (hl : l.length = m) (hp : 2 * i + 1 = p) (h2 : ¬ p + 1 < m) : kid l i = p := by
  subst hp
  unfold kid
  rw [hl, if_neg (fun f => h2 f.1)]
theorem exit_sink {e : E} {f i p m : Nat} {q : Q} (hl : q.l.length = m) (hp : kid q.l i = p) (h : ¬ (p < m ∧ before e (nth q.l p) = false)) : sinkGo e f q i = lay q i e := by
  cases f with
  | zero => rfl
  | succ f => rw [sinkGo, hp, hl, if_neg h]

set_option maxRecDepth 100000 in
set_option maxHeartbeats 2000000 in
theorem sink_walk (w : World) (B hb n : Nat) (lv pv : Value) (q : Q) (h : HRep w B hb n lv pv q) (hids : IdsIn n q.l) (i : Nat) (hi : i < q.l.length) :
    Calls Try.prog 48 #[.pointer (some ⟨hb, 0, none⟩), .int .i64 i] w fun r w' => r = .returned (.tuple #[]) ∧ HStep w B hb n lv pv (sink q i) w' := by
  have hid := hids i hi
  have hsw := h.hs
  obtain ⟨lb, lc, pb, pc, rfl, hlc, rfl, hpc, l1, l2, n0, n1, n2, f0, f1, dl, dp⟩ := h.forms (by omega) (by omega)
  obtain ⟨c0, c1, g0, g1, l0⟩ := h.cells
  obtain ⟨d0, d1⟩ := dl i hi
  have hs2 := h.lsmall
  have hn : 0 < n := by omega
  unfold sink
  generalize nth q.l i = e at *
  obtain ⟨a, k⟩ := e
  simp only at d0 d1 hid
  obtain ⟨m, hm⟩ : ∃ m, q.l.length = m := ⟨_, rfl⟩
  rw [hm] at c0 hi hs2 hlc h hsw ⊢
  have H0 : Hid (Round w w.heap.size B hb n m lb lc pb pc ⟨a, k⟩ q (w.alloc (.cells #[.int .i64 a, .int .i64 k] 90))) :=
    Lib.hid ⟨h.only ((Only.refl w (fun _ => False)).alloc _) (fun _ _ f => f), hm, hids, (Only.refl w _).alloc _, blk_new w _, Nat.le_refl _⟩
  have HN : Hid (¬ HS hb (.slice (some ⟨lb, 0, none⟩) m lc) (.slice (some ⟨pb, 0, none⟩) n pc) w.heap.size) := Lib.hid (fun f => by have := (hsw _ f).2; omega)
  clear h hm dl dp hids hsw
  go_enter Try.func48, Try.ntmps48
  go_step3
  go_wp2
  go_step3
  go_wp2
  clear d0 d1 c0 c1 f0 f1 g0 g1 l0 l1 l2
  go_loopw [1] (fun v1 wr => ∃ (i' f : Nat) (q' : Q), v1 = .int .i64 i' ∧ i' < m ∧ m - i' ≤ f ∧ Hid (sinkGo ⟨a, k⟩ f q' i' = sinkGo ⟨a, k⟩ (m - i) q i) ∧ Hid (Round w w.heap.size B hb n m lb lc pb pc ⟨a, k⟩ q' wr)) (fun v1 _ => m - (intOf v1).toNat)
  case atStart => exact ⟨i, m - i, q, rfl, hi, Nat.le_refl _, Lib.hid rfl, H0⟩
  case round =>
    obtain ⟨i', f, q', rfl, hi', hf, HE, HR⟩ := hrel
    clear H0
    obtain ⟨c0, c1, l0, e0, e1, l3⟩ := HR.out.facts
    obtain ⟨p, hp⟩ : ∃ p, 2 * i' + 1 = p := ⟨_, rfl⟩
    have hv : 2 * (i' : Int) + 1 = (p : Int) := by omega
    have HP := Lib.hid hp
    have hpb : p ≤ 2001 := by omega
    clear hp
    go_upto_region 2 with (fail)
    go_cut [41] (fun v41 wc => ∃ b : Bool, v41 = .bool b ∧ Hid (kid q'.l i' = if b = true then p + 1 else p) ∧ Hid (Round w w.heap.size B hb n m lb lc pb pc ⟨a, k⟩ q' wc))
    case first =>
      have HR1 : Hid (Round w w.heap.size B hb n m lb lc pb pc ⟨a, k⟩ q' wr.drew) := Lib.hid (HR.out.below (Below.refl _ _).drew)
      obtain ⟨p2, hp2⟩ : ∃ p2, p + 1 = p2 := ⟨_, rfl⟩
      have hw1 : IntKind.i64.wrap ((p : Int) + 1) = (p2 : Int) := i64w (by omega) (by omega) (by omega)
      have HP2 := Lib.hid hp2
      by_cases h2 : p2 < m
      · obtain ⟨d0, d1, l1, _, _⟩ := HR.out.entry p2 h2 hn
        obtain ⟨d2, d3, _, _, _⟩ := HR.out.entry p (by omega) hn
        have hp0 : (0 : Int) ≤ (p : Int) := Int.natCast_nonneg _
        have hp1 : (p : Int) < (m : Int) := by omega
        have hp3 : (0 : Int) ≤ (p2 : Int) := Int.natCast_nonneg _
        have hp4 : (p2 : Int) < (m : Int) := by omega
        clear hp2
        generalize hx : nth q'.l p2 = x at *
        generalize hy : nth q'.l p = y at *
        have HX := Lib.hid hx
        have HY := Lib.hid hy
        obtain ⟨a1, k1⟩ := x
        obtain ⟨a2, k2⟩ := y
        simp only at d0 d1 d2 d3
        clear hx hy
        obtain ⟨b, hbf⟩ : ∃ b, before ⟨a1, k1⟩ ⟨a2, k2⟩ = b := ⟨_, rfl⟩
        have HB := Lib.hid hbf
        clear hbf
        have hd : decide ((p2 : Int) < (m : Int)) = true := by simpa using h2
        have hd2 : decide (p2 < m) = true := by simpa using h2
        go_region_held3 (fun w' => w'.cell? ⟨hb, 0, none⟩ = some (.slice (some ⟨lb, 0, none⟩) m lc) ∧ w'.cell? ⟨lb, p2 * 2, none⟩ = some (.int .i64 a1) ∧ w'.cell? ⟨lb, p2 * 2 + 1, none⟩ = some (.int .i64 k1) ∧ w'.cell? ⟨lb, p * 2, none⟩ = some (.int .i64 a2) ∧ w'.cell? ⟨lb, p * 2 + 1, none⟩ = some (.int .i64 k2)) (first | go_keep | (refine ⟨?_, ?_, ?_, ?_, ?_⟩ <;> (rw [hB1.cell (by simp; omega)]; assumption)))
          (first | (go_at_call 54; refine (before_any ⟨a1, k1⟩ ⟨a2, k2⟩ _).mono ?_; rintro e w1 ⟨rfl, hB1⟩; rw [HB.out]))
        all_goals (try go_wp2_with fail)
        all_goals go_meet
        all_goals exact ⟨b, rfl, Lib.hid (by rw [HP2.out]; exact kid_yes HR.out.len HP.out h2 HX.out HY.out HB.out HP2.out), Lib.hid (HR1.out.below hB1)⟩
      · clear hp2
        have H2 := Lib.hid h2
        have hd : decide ((p2 : Int) < (m : Int)) = false := by simpa using h2
        have hd2 : decide (p2 < m) = false := by simpa using h2
        clear h2
        go_quiet (fail)
        go_wp2_with fail
        go_meet
        exact ⟨false, rfl, Lib.hid (by rw [if_neg (by decide)]; exact kid_no HR.out.len HP.out (by rw [HP2.out]; exact H2.out)), Lib.hid (HR.out.below (pw_below_drewN (Below.refl _ _) _))⟩
    case rest =>
      obtain ⟨b, rfl, HK, HR2⟩ := hcut
      clear c0 c1 e0 e1 l3 l0 HR
      go_upto_if 41 with (fail)
      go_cut [5] (fun v5 wd => ∃ p : Nat, v5 = .int .i64 p ∧ Hid (kid q'.l i' = p) ∧ p ≤ 2002 ∧ Hid (i' < p) ∧ wd = wc)
      case first =>
        cases b with
        | true =>
          go_wp2_with fail
          go_meet
          exact ⟨p + 1, by go_num, Lib.hid (by rw [HK.out]; rfl), by omega, Lib.hid (by have := HP.out; omega), rfl⟩
        | false =>
          go_wp2_with fail
          go_meet
          exact ⟨p, rfl, Lib.hid (by rw [HK.out]; rfl), by omega, Lib.hid (by have := HP.out; omega), rfl⟩
      case rest =>
        clear hpb hv HP HK
        obtain ⟨p, rfl, HK, hpb, HIP, rfl⟩ := hcut
        obtain ⟨c0, c1, l0, e0, e1, l3⟩ := HR2.out.facts
        by_cases hpm : p < m
        · obtain ⟨d0, d1, l1, d2, d3⟩ := HR2.out.entry p hpm hn
          generalize hx : nth q'.l p = x at *
          obtain ⟨a', k'⟩ := x
          have HX := Lib.hid hx
          simp only at d0 d1 d2 d3
          clear hx
          have hp0 : (0 : Int) ≤ (p : Int) := Int.natCast_nonneg _
          have hp1 : (p : Int) < (m : Int) := by omega
          have hd : decide ((p : Int) ≥ (m : Int)) = false := by simpa using hpm
          have hd2 : decide (m ≤ p) = false := by simpa using hpm
          have hd3 : decide ((m : Int) ≤ (p : Int)) = false := by simpa using hpm
          cases hbf : before ⟨a, k⟩ ⟨a', k'⟩ with
          | true =>
            have HB := Lib.hid hbf
            clear hbf
            go_upto_region 4 with (fail)
            go_cut [61] (fun v61 wc => v61 = .bool true ∧ Hid (Round w w.heap.size B hb n m lb lc pb pc ⟨a, k⟩ q' wc))
            case first =>
              have HR3 : Hid (Round w w.heap.size B hb n m lb lc pb pc ⟨a, k⟩ q' _) := Lib.hid (HR2.out.below (Below.refl _ _).drew)
              go_region_held3 (fun w' => w'.cell? ⟨hb, 0, none⟩ = some (.slice (some ⟨lb, 0, none⟩) m lc) ∧ w'.cell? ⟨w.heap.size, 0, none⟩ = some (.int .i64 a) ∧ w'.cell? ⟨w.heap.size, 1, none⟩ = some (.int .i64 k) ∧ w'.cell? ⟨lb, p * 2, none⟩ = some (.int .i64 a') ∧ w'.cell? ⟨lb, p * 2 + 1, none⟩ = some (.int .i64 k')) (first | go_keep | (refine ⟨?_, ?_, ?_, ?_, ?_⟩ <;> (rw [hB1.cell (by simp; omega)]; assumption)))
                (first | (go_at_call 54; refine (before_any ⟨a, k⟩ ⟨a', k'⟩ _).mono ?_; rintro e w1 ⟨rfl, hB1⟩; rw [HB.out]))
              all_goals (try go_wp2_with fail)
              all_goals go_meet
              all_goals exact ⟨rfl, Lib.hid (HR3.out.below hB1)⟩
            case rest =>
              obtain ⟨rfl, HR3⟩ := hcut
              clear c0 c1 e0 e1 l3 l0 HR2
              obtain ⟨c0, c1, l0, e0, e1, l3⟩ := HR3.out.facts
              go_wp2_with (go_at_call 47; refine (lay_walk _ B hb n _ _ q' (HR3.out.rep) i' a k (by rw [HR3.out.len]; exact hi') hid.1 hid.2).mono ?_; rintro e w1 ⟨rfl, hS⟩; have HR4 := Lib.hid (HR3.out.lay i' ⟨a, k⟩ hid.1 hid.2 hS HN.out); clear hS)
              (try rw [Exit.noGoto_normal])
              go_end0
              refine ⟨rfl, ?_⟩
              rw [← HE.out, exit_sink HR3.out.len HK.out (by rw [HX.out, HB.out]; simp)]
              exact ⟨HR4.out.rep, HR4.out.only⟩
          | false =>
            have HB := Lib.hid hbf
            clear hbf
            go_upto_region 4 with (fail)
            go_cut [61] (fun v61 wc => v61 = .bool false ∧ Hid (Round w w.heap.size B hb n m lb lc pb pc ⟨a, k⟩ q' wc))
            case first =>
              have HR3 : Hid (Round w w.heap.size B hb n m lb lc pb pc ⟨a, k⟩ q' _) := Lib.hid (HR2.out.below (Below.refl _ _).drew)
              go_region_held3 (fun w' => w'.cell? ⟨hb, 0, none⟩ = some (.slice (some ⟨lb, 0, none⟩) m lc) ∧ w'.cell? ⟨w.heap.size, 0, none⟩ = some (.int .i64 a) ∧ w'.cell? ⟨w.heap.size, 1, none⟩ = some (.int .i64 k) ∧ w'.cell? ⟨lb, p * 2, none⟩ = some (.int .i64 a') ∧ w'.cell? ⟨lb, p * 2 + 1, none⟩ = some (.int .i64 k')) (first | go_keep | (refine ⟨?_, ?_, ?_, ?_, ?_⟩ <;> (rw [hB1.cell (by simp; omega)]; assumption)))
                (first | (go_at_call 54; refine (before_any ⟨a, k⟩ ⟨a', k'⟩ _).mono ?_; rintro e w1 ⟨rfl, hB1⟩; rw [HB.out]))
              all_goals (try go_wp2_with fail)
              all_goals go_meet
              all_goals exact ⟨rfl, Lib.hid (HR3.out.below hB1)⟩
            case rest =>
              obtain ⟨rfl, HR3⟩ := hcut
              clear c0 c1 e0 e1 l3 l0 d0 d1 l1 HR2
              obtain ⟨c0, c1, l0, e0, e1, l3⟩ := HR3.out.facts
              obtain ⟨d0, d1, l1, _, _⟩ := HR3.out.entry p hpm hn
              rw [HX.out] at d0 d1
              simp only at d0 d1
              go_wp2_with (go_at_call 47; refine (lay_walk _ B hb n _ _ q' (HR3.out.rep) i' a' k' (by rw [HR3.out.len]; exact hi') d2 d3).mono ?_; rintro e w1 ⟨rfl, hS⟩; have HR4 := Lib.hid (HR3.out.lay i' ⟨a', k'⟩ d2 d3 hS HN.out); clear hS)
              have HF : Hid (∃ f', f = f' + 1) := Lib.hid ⟨f - 1, by omega⟩
              go_roundw
              case rel =>
                obtain ⟨f', hf'⟩ := HF.out
                refine ⟨p, f', lay q' i' ⟨a', k'⟩, rfl, hpm, by have := HIP.out; omega, Lib.hid ?_, HR4⟩
                rw [← HE.out, hf', sinkGo, HK.out, HR3.out.len, HX.out, if_pos ⟨hpm, HB.out⟩]
              case measure => have := HIP.out; simp [intOf]; omega
        · have HPM := Lib.hid hpm
          have hd : decide ((p : Int) ≥ (m : Int)) = true := by simpa using hpm
          have hd2 : decide (m ≤ p) = true := by simpa using hpm
          have hd3 : decide ((m : Int) ≤ (p : Int)) = true := by simpa using hpm
          clear hpm
          go_upto_region 4 with (fail)
          go_cut [61] (fun v61 wc => v61 = .bool true ∧ Hid (Round w w.heap.size B hb n m lb lc pb pc ⟨a, k⟩ q' wc))
          case first =>
            go_quiet (fail)
            go_wp2_with fail
            go_meet
            exact ⟨rfl, Lib.hid (HR2.out.below (pw_below_drewN (Below.refl _ _) _))⟩
          case rest =>
            obtain ⟨rfl, HR3⟩ := hcut
            clear c0 c1 e0 e1 l3 l0 HR2
            obtain ⟨c0, c1, l0, e0, e1, l3⟩ := HR3.out.facts
            go_wp2_with (go_at_call 47; refine (lay_walk _ B hb n _ _ q' (HR3.out.rep) i' a k (by rw [HR3.out.len]; exact hi') hid.1 hid.2).mono ?_; rintro e w1 ⟨rfl, hS⟩; have HR4 := Lib.hid (HR3.out.lay i' ⟨a, k⟩ hid.1 hid.2 hS HN.out); clear hS)
            (try rw [Exit.noGoto_normal])
            go_end0
            refine ⟨rfl, ?_⟩
            rw [← HE.out, exit_sink HR3.out.len HK.out (fun f => HPM.out f.1)]
            exact ⟨HR4.out.rep, HR4.out.only⟩
end Go.Proofs.Ytfppfdejjifhdaa.PAll

namespace Go.Proofs.Ytfppfdejjifhdaa.PAll
open Go.RowKit Go.Proofs.YtfppfdejjifhdaaW.PrintWords Go.Proofs.YtfppfdejjifhdaaW.PrintLast Go.Proofs.YtfppfdejjifhdaaW.PrintMore
open Hp hiding Good
set_option linter.unusedVariables false
set_option linter.unusedSimpArgs false

theorem info178 : (Try.prog.info? 90).map (fun i => (i.zero, i.size, i.bytes)) = some (some (.agg #[.int .i64 0, .int .i64 0]), 2, 16) := by kernel_rfl

theorem flat_append (l m : List E) : flat (l ++ m) = flat l ++ flat m := by simp [flat]
theorem ids_of_good {n : Nat} {q : Q} (h : Hp.Good n q) : IdsIn n q.l := fun j hj => ⟨(h.ids j hj).1, (h.ids j hj).2.1⟩

theorem grown_ne {w w' : World} {v : Value} {k : Nat} (h : w.grownBy w' v.ownBlock) (hk : k < w.heap.size) (hn : v.ownBlock ≠ some k) : w'.heap[k]? = w.heap[k]? := h.block k hk (fun e => hn e.symm)

/-- behind the append -/
structure Grew (w w1 : World) (B hb n : Nat) (lv pv lv' : Value) (q : Q) : Prop where
  rep : HRep (w1.setCell ⟨hb, 0, none⟩ lv') B hb n lv' pv ⟨q.l ++ [⟨0, 0⟩], q.place⟩
  only : Only w (w1.setCell ⟨hb, 0, none⟩ lv') (HS hb lv pv)
  own : ∀ k, k < w.heap.size → HS hb lv' pv k → HS hb lv pv k
  blk : w1.heap[hb]? = some (.cells #[lv, pv] 88 (0, 0))
  place : ∀ k, pv.ownBlock = some k → w1.heap[k]? = w.heap[k]?

theorem HRep.grow {w w1 : World} {B hb n : Nat} {lv pv : Value} {q : Q} {m g cap : Nat} (h : HRep w B hb n lv pv q) (hm : q.l.length = m) (hl : m + 1 ≤ 1000)
    (hown : w1.ownsRow B 90 2 (.slice (some ⟨g, 0, none⟩) (m + 1) cap) (m + 1) (flat q.l ++ [.int .i64 0, .int .i64 0])) (hg : (w.alloc (.cells #[.int .i64 0, .int .i64 0] 90)).grownBy w1 lv.ownBlock) (hat : lv.ownBlock = some g ∨ g = w.heap.size + 1) :
    Grew w w1 B hb n lv pv (.slice (some ⟨g, 0, none⟩) (m + 1) cap) q := by
  subst hm
  have hb0 := blk_lt h.blk
  have hnl : lv.ownBlock ≠ some hb := fun e => by
    obtain ⟨cells, hc⟩ := own_typed h.l hb e
    exact ne_typed hc h.blk (by decide) rfl
  have hnp : ∀ k, pv.ownBlock = some k → lv.ownBlock ≠ some k := fun k hk e => by
    obtain ⟨cells, hc⟩ := own_typed h.l k e
    obtain ⟨cells', hc'⟩ := own_typed h.p k hk
    exact ne_typed hc hc' (by decide) rfl
  have hph : ∀ k, pv.ownBlock = some k → k ≠ hb := fun k hk e => by
    obtain ⟨cells', hc'⟩ := own_typed h.p k hk
    exact ne_typed hc' h.blk (by decide) e
  have old : ∀ k, k < w.heap.size → lv.ownBlock ≠ some k → w1.heap[k]? = w.heap[k]? := fun k hk hn =>
    (grown_ne hg (by simp; omega) hn).trans (Below.heap_alloc _ _ _ hk)
  have hblk : w1.heap[hb]? = some (.cells #[lv, pv] 88 (0, 0)) := (old hb hb0 hnl).trans h.blk
  obtain ⟨lv', hlv'⟩ : ∃ lv', Value.slice (some ⟨g, 0, none⟩) (q.l.length + 1) cap = lv' := ⟨_, rfl⟩
  have hvb : lv'.ownBlock = some g := by rw [← hlv']; rfl
  rw [hlv'] at hown ⊢
  have hlv : ∀ k, lv'.ownBlock = some k → k ≠ hb := fun k hk e => by
    obtain ⟨cells', hc'⟩ := own_typed hown k hk
    exact ne_typed hc' hblk (by decide) e
  have o0 : Only w (w.alloc (.cells #[.int .i64 0, .int .i64 0] 90)) (HS hb lv pv) := (Only.refl _ _).alloc _
  have o1 : Only (w.alloc (.cells #[.int .i64 0, .int .i64 0] 90)) w1 (fun k => k < w.heap.size → HS hb lv pv k) := (Only.of_grown hg).mono (fun k _ hk _ => .inr (.inl hk.symm))
  have o2 : Only w w1 (HS hb lv pv) := o0.trans o1
  have o3 : Only w1 (w1.setCell ⟨hb, 0, none⟩ lv') (fun k => k = hb) := (Only.refl w1 (fun k => k = hb)).cell hb 0 lv' rfl
  refine ⟨⟨?_, ?_, ?_, h.base, by simp; omega, h.psmall⟩, ?_, ?_, hblk, fun k hk => old k (h.p.lt k hk).2 (hnp k hk)⟩
  · have := blk_set hblk 0 lv'
    exact this
  · rw [flat_append]
    have := own_only hown o3 (fun k hk e => hlv k hk e)
    simpa [flat] using this
  · refine own_only (own_only h.p (S := fun k => lv.ownBlock = some k) ⟨o2.os, o2.tape, o2.output, o2.size, fun k hk hn => old k hk hn⟩ (fun k hk e => hnp k hk e)) o3 (fun k hk e => hph k hk e)
  · exact o2.cell hb 0 lv' (.inl rfl)
  · rintro k hlt (rfl | hk | hk)
    · exact .inl rfl
    · rw [hvb] at hk
      cases hk
      rcases hat with e | e
      · exact .inr (.inl e)
      · omega
    · exact .inr (.inr hk)

theorem news178 (w : World) : ∀ (j : Nat) (u : Value), [Value.int .i64 0, Value.int .i64 0][j]? = some u → (w.alloc (.cells #[.int .i64 0, .int .i64 0] 90)).cell? ((⟨w.heap.size, 0, none⟩ : Addr).add j) = some u :=
  World.news_of_block (cs := #[.int .i64 0, .int .i64 0]) (t := 90) (fr := (0, 0)) (heap_alloc_new w _)

set_option maxRecDepth 100000 in
set_option maxHeartbeats 2000000 in
theorem put_walk1 (w : World) (B hb n : Nat) (lv pv : Value) (q : Q) (h : HRep w B hb n lv pv q) (hok : Ok n q) (id key : Int) (h0 : 0 ≤ id) (h1 : id < n) (hin : pl q.place id = 0) (hlen : q.l.length + 1 ≤ 1000) :
    Calls Try.prog 41 #[.pointer (some ⟨hb, 0, none⟩), .int .i64 id, .int .i64 key] w fun r w' => r = .returned (.tuple #[]) ∧ ∃ lv', HRep w' B hb n lv' pv (put q id key) ∧ Only w w' (HS hb lv pv) ∧ ∀ k, k < w.heap.size → HS hb lv' pv k → HS hb lv pv k := by
  obtain ⟨i0, hi0, hz0, hz1, hz2⟩ := info_parts info178
  obtain ⟨c0, c1, g0, g1, l0⟩ := h.cells
  have hs2 := h.psmall
  have hpl := h.plen
  obtain ⟨pb, pc, rfl, hpc⟩ := own_form h.p (by omega)
  obtain ⟨a, rfl⟩ := Int.eq_ofNat_of_zero_le h0
  have d0 : w.cell? ⟨pb, a, none⟩ = some (.int .i64 0) := by
    have := (h.p.cellAt a (by omega)).trans (ints_get q.place a (by omega))
    rw [hin] at this
    exact this
  obtain ⟨A, cl, hlv, hcl⟩ : ∃ A cl, lv = .slice A q.l.length cl ∧ q.l.length ≤ cl := by
    rcases h.l.2 with ⟨rfl, e⟩ | ⟨g, cap, cur, rfl, _, _, hc, _⟩
    · exact ⟨none, 0, by rw [e], by omega⟩
    · exact ⟨_, cap, rfl, hc⟩
  obtain ⟨m, hm⟩ : ∃ m, q.l.length = m := ⟨_, rfl⟩
  have HOWN : Hid ((w.alloc (.cells #[.int .i64 0, .int .i64 0] 90)).ownsRow B 90 2 lv m (flat q.l)) := Lib.hid (by rw [← hm]; exact h.l.alloc _)
  have HBASE : Hid (B ≤ w.heap.size) := Lib.hid (by have := h.base; omega)
  have HG : Hid (∀ g cap w1, w1.ownsRow B 90 2 (.slice (some ⟨g, 0, none⟩) (m + 1) cap) (m + 1) (flat q.l ++ [.int .i64 0, .int .i64 0]) → (w.alloc (.cells #[.int .i64 0, .int .i64 0] 90)).grownBy w1 lv.ownBlock → (lv.ownBlock = some g ∨ g = w.heap.size + 1) → Grew w w1 B hb n lv (.slice (some ⟨pb, 0, none⟩) n pc) (.slice (some ⟨g, 0, none⟩) (m + 1) cap) q) :=
    Lib.hid (fun g cap w1 x y z => h.grow hm (by omega) x y z)
  obtain ⟨k, k0, k1, k2, k3, k4⟩ := put_new key hok h0 h1 hin
  obtain ⟨u0, u1, u2, u3, u4, u5, u6⟩ := new_good key hok h0 h1 hin
  rw [hm] at hlen hlv hcl u2 u3 u4 k0 k1 k2 k3 k4 u1 u6
  have K4 := Lib.hid k4
  have HL0 : Hid (m < (⟨q.l ++ [⟨0, 0⟩], q.place⟩ : Q).l.length) := Lib.hid (by simp; omega)
  have HE : Hid (Hp.lay ⟨q.l ++ [⟨0, 0⟩], q.place⟩ m ⟨a, key⟩ = q0new q a key) := Lib.hid (by unfold q0new; rw [hm])
  have HI0 := Lib.hid (ids_of_good u0)
  have HL1 : Hid (m < (q0new q a key).l.length) := Lib.hid (by omega)
  have HI1 := Lib.hid (ids_of_good k3)
  have HL2 : Hid (k < (sink (q0new q a key) m).l.length) := Lib.hid (by omega)
  have HP2 := Lib.hid k1
  subst hlv
  clear k4 k1 k2 k3 u0 u1 u2 u3 u4 u5 u6 hin hok h hm hpl
  go_enter Try.func41, Try.ntmps41
  go_wp2_with (first | (at_builtin; refine wpList_append_lies _ (by rfl) (.tmp 26) (.tmp 28) 84 (by rfl) B 90 i0 (.agg #[.int .i64 0, .int .i64 0]) 2 16 Try.underlying84 hi0 hz0 hz1 hz2 rfl (by decide) (.slice A m cl) m (flat q.l) (by rfl) HOWN.out ⟨w.heap.size, 0, none⟩ 1 1 [.int .i64 0, .int .i64 0] (by rfl) (by rfl) (news178 w) (by simp [Value.oneCell']) (by decide) (by simp only [maxLen]; omega) (by omega) (by have := HBASE.out; simp; omega) (w.heap.size + 1) (by simp) ?_; intro g cap w1 hown hgrow hat hlt; have HGr := Lib.hid (HG.out g cap w1 hown hgrow hat); have c0' := (blk_cell HGr.out.blk 0).trans rfl; have f0' := blk_frozen HGr.out.blk 0; clear hown hgrow hat hlt))
  have HO1 := Lib.hid HGr.out.only
  have HOW := Lib.hid HGr.out.own
  refine (lay_walk _ B hb n _ _ _ HGr.out.rep m a key HL0.out (by omega) h1).mono ?_
  rintro e w2 ⟨rfl, hS⟩
  rw [HE.out] at hS
  have HR2 := Lib.hid hS.1
  have HO2 := Lib.hid (HO1.out.trans (hS.2.mono (fun k _ hk hlt => HOW.out k hlt hk)))
  clear hS HO1 HGr c0' f0'
  go_wp2_with fail
  refine (sink_walk _ B hb n _ _ _ HR2.out HI0.out m HL1.out).mono ?_
  rintro e w3 ⟨rfl, hS⟩
  have HR3 := Lib.hid hS.1
  have HO3 := Lib.hid (HO2.out.trans (hS.2.mono (fun k _ hk hlt => HOW.out k hlt hk)))
  clear hS HO2 HR2
  obtain ⟨_, c1', _, _, l3⟩ := HR3.out.cells
  have d3 : w3.cell? ⟨pb, a, none⟩ = some (.int .i64 ((k : Int) + 1)) := by
    have := (HR3.out.p.cellAt a (by omega)).trans (ints_get _ a (by have := HR3.out.plen; omega))
    rw [HP2.out] at this
    exact this
  have hk1 : (k : Int) + 1 - 1 = (k : Int) := by omega
  go_wp2_with fail
  refine (rise_walk _ B hb n _ _ _ HR3.out HI1.out k HL2.out).mono ?_
  rintro e w4 ⟨rfl, hS⟩
  have HR4 := Lib.hid hS.1
  have HO4 := Lib.hid (HO3.out.trans (hS.2.mono (fun k _ hk hlt => HOW.out k hlt hk)))
  clear hS
  go_wp2_with fail
  go_end0
  rw [K4.out]
  exact ⟨rfl, _, HR4.out, HO4.out, HOW.out⟩

set_option maxRecDepth 100000 in
set_option maxHeartbeats 2000000 in
theorem put_walk2 (w : World) (B hb n : Nat) (lv pv : Value) (q : Q) (h : HRep w B hb n lv pv q) (hok : Ok n q) (id key : Int) (h0 : 0 ≤ id) (h1 : id < n) (hin : pl q.place id ≠ 0) :
    Calls Try.prog 41 #[.pointer (some ⟨hb, 0, none⟩), .int .i64 id, .int .i64 key] w fun r w' => r = .returned (.tuple #[]) ∧ ∃ lv', HRep w' B hb n lv' pv (put q id key) ∧ Only w w' (HS hb lv pv) ∧ ∀ k, k < w.heap.size → HS hb lv' pv k → HS hb lv pv k := by
  obtain ⟨i, hi, x1, x2⟩ := hok.good.back id h0 h1 hin
  obtain ⟨c0, c1, g0, g1, l0⟩ := h.cells
  have hs2 := h.psmall
  have hs3 := h.lsmall
  have hpl := h.plen
  obtain ⟨pb, pc, rfl, hpc⟩ := own_form h.p (by omega)
  obtain ⟨a, rfl⟩ := Int.eq_ofNat_of_zero_le h0
  have d0 : w.cell? ⟨pb, a, none⟩ = some (.int .i64 ((i : Int) + 1)) := by
    have := (h.p.cellAt a (by omega)).trans (ints_get q.place a (by omega))
    rw [x2] at this
    exact this
  obtain ⟨k, k0, k1, k2, k3, k4⟩ := put_old key hok h0 h1 hi x1 x2
  obtain ⟨u0, u1, u2, u3, u4, u5⟩ := old_good key hok h0 h1 hi x1 x2
  have H := Lib.hid h
  have K4 := Lib.hid k4
  have HL0 := Lib.hid hi
  have HI0 := Lib.hid (ids_of_good u0)
  have HL1 : Hid (i < (Hp.lay q i ⟨a, key⟩).l.length) := Lib.hid (by omega)
  have HI1 := Lib.hid (ids_of_good k3)
  have HL2 : Hid (k < (sink (Hp.lay q i ⟨a, key⟩) i).l.length) := Lib.hid (by omega)
  have HP2 := Lib.hid k1
  have hi2 : i ≤ 1000 := by omega
  have hi1 : (i : Int) + 1 - 1 = (i : Int) := by omega
  have hd : decide ((i : Int) < 0) = false := by simp
  clear k4 k1 k2 k3 u0 u1 u2 u3 u4 u5 hin hok h hpl x1 x2 hi
  go_enter Try.func41, Try.ntmps41
  go_wp2_with fail
  refine (lay_walk _ B hb n _ _ _ H.out i a key HL0.out (by omega) h1).mono ?_
  rintro e w2 ⟨rfl, hS⟩
  have HR2 := Lib.hid hS.1
  have HO2 := Lib.hid hS.2
  clear hS
  go_wp2_with fail
  refine (sink_walk _ B hb n _ _ _ HR2.out HI0.out i HL1.out).mono ?_
  rintro e w3 ⟨rfl, hS⟩
  have HR3 := Lib.hid hS.1
  have HO3 := Lib.hid (HO2.out.trans (hS.2.mono (fun k _ hk hlt => hk)))
  clear hS HO2 HR2
  obtain ⟨_, c1', _, _, l3⟩ := HR3.out.cells
  have d3 : w3.cell? ⟨pb, a, none⟩ = some (.int .i64 ((k : Int) + 1)) := by
    have := (HR3.out.p.cellAt a (by omega)).trans (ints_get _ a (by have := HR3.out.plen; omega))
    rw [HP2.out] at this
    exact this
  have hk1 : (k : Int) + 1 - 1 = (k : Int) := by omega
  go_wp2_with fail
  refine (rise_walk _ B hb n _ _ _ HR3.out HI1.out k HL2.out).mono ?_
  rintro e w4 ⟨rfl, hS⟩
  have HR4 := Lib.hid hS.1
  have HO4 := Lib.hid (HO3.out.trans (hS.2.mono (fun k _ hk hlt => hk)))
  clear hS
  go_wp2_with fail
  go_end0
  rw [K4.out]
  exact ⟨rfl, _, HR4.out, HO4.out, fun _ _ h => h⟩

theorem put_walk (w : World) (B hb n : Nat) (lv pv : Value) (q : Q) (h : HRep w B hb n lv pv q) (hok : Ok n q) (id key : Int) (h0 : 0 ≤ id) (h1 : id < n) (hlen : q.l.length + 1 ≤ 1000) :
    Calls Try.prog 41 #[.pointer (some ⟨hb, 0, none⟩), .int .i64 id, .int .i64 key] w fun r w' => r = .returned (.tuple #[]) ∧ ∃ lv', HRep w' B hb n lv' pv (put q id key) ∧ Only w w' (HS hb lv pv) ∧ ∀ k, k < w.heap.size → HS hb lv' pv k → HS hb lv pv k := by
  by_cases hin : pl q.place id = 0
  · exact put_walk1 w B hb n lv pv q h hok id key h0 h1 hin hlen
  · exact put_walk2 w B hb n lv pv q h hok id key h0 h1 hin
end Go.Proofs.Ytfppfdejjifhdaa.PAll

namespace Go.Proofs.Ytfppfdejjifhdaa.PAll
open Go.RowKit Go.Proofs.YtfppfdejjifhdaaW.PrintWords Go.Proofs.YtfppfdejjifhdaaW.PrintLast Go.Proofs.YtfppfdejjifhdaaW.PrintMore
open Hp hiding Good
set_option linter.unusedVariables false
set_option linter.unusedSimpArgs false

theorem own_take {w : World} {B e sz g n cap : Nat} {xs : List Value} (h : w.ownsRow B e sz (.slice (some ⟨g, 0, none⟩) n cap) n xs) (k : Nat) (hk : k ≤ n) : w.ownsRow B e sz (.slice (some ⟨g, 0, none⟩) k cap) k (xs.take (k * sz)) := by
  have hks : k * sz ≤ n * sz := Nat.mul_le_mul_right sz hk
  obtain ⟨h1, h2⟩ := h
  refine ⟨by rw [List.length_take, h1]; omega, ?_⟩
  rcases h2 with ⟨h', _⟩ | ⟨g', cap', cur, h', hb, hg, hnc, hcm, hcs, htake⟩
  · simp at h'
  · simp only [Value.slice.injEq, Option.some.injEq, Addr.mk.injEq, and_true, true_and] at h'
    obtain ⟨rfl, rfl⟩ := h'
    refine .inr ⟨g, cap, cur, rfl, hb, hg, by omega, hcm, hcs, ?_⟩
    rw [← htake, List.take_take]
    congr 1
    omega
theorem flat_take : ∀ (l : List E) (k : Nat), flat (l.take k) = (flat l).take (k * 2)
  | [], k => by simp [flat]
  | e :: l, 0 => by simp [flat]
  | e :: l, k + 1 => by
    have := flat_take l k
    have e1 : ∀ d l, flat (d :: l) = .int .i64 d.id :: .int .i64 d.key :: flat l := fun _ _ => rfl
    rw [List.take_succ_cons, e1, e1, this, show (k + 1) * 2 = k * 2 + 1 + 1 by omega, List.take_succ_cons, List.take_succ_cons]

/-- behind the two stores of drop -/
theorem HRep.cut {w : World} {B hb n lb lc pb pc m : Nat} {q : Q} (h : HRep w B hb n (.slice (some ⟨lb, 0, none⟩) m lc) (.slice (some ⟨pb, 0, none⟩) n pc) q) (hm : q.l.length = m) (a : Nat) (hne : lb ≠ pb) (hlh : lb ≠ hb) (hph : pb ≠ hb) :
    HRep ((w.setCell ⟨hb, 0, none⟩ (.slice (some ⟨lb, 0, none⟩) (m - 1) lc)).setCell ⟨pb, a, none⟩ (.int .i64 0)) B hb n (.slice (some ⟨lb, 0, none⟩) (m - 1) lc) (.slice (some ⟨pb, 0, none⟩) n pc) ⟨q.l.take (m - 1), q.place.set a 0⟩ := by
  subst hm
  have o1 : Only w (w.setCell ⟨hb, 0, none⟩ (.slice (some ⟨lb, 0, none⟩) (q.l.length - 1) lc)) (fun k => k = hb) := (Only.refl w (fun k => k = hb)).cell hb 0 _ rfl
  have b1 := blk_set h.blk 0 (.slice (some ⟨lb, 0, none⟩) (q.l.length - 1) lc)
  have l1 := own_only (own_take h.l (q.l.length - 1) (by omega)) o1 (fun k hk e => by simp [Value.ownBlock] at hk; omega)
  have p1 := own_only h.p o1 (fun k hk e => by simp [Value.ownBlock] at hk; omega)
  generalize w.setCell ⟨hb, 0, none⟩ (.slice (some ⟨lb, 0, none⟩) (q.l.length - 1) lc) = w1 at *
  have o2 : Only w1 (w1.setCell ⟨pb, a, none⟩ (.int .i64 0)) (fun k => k = pb) := (Only.refl w1 (fun k => k = pb)).cell pb a _ rfl
  have b2 := (o2.block hb (blk_lt b1) (fun e => hph e.symm)).trans b1
  have l2 := own_only l1 o2 (fun k hk e => by simp [Value.ownBlock] at hk; omega)
  have p2 := (p1.stored a (.int .i64 0)).1
  generalize w1.setCell ⟨pb, a, none⟩ (.int .i64 0) = w2 at *
  have hs := h.lsmall
  have hl : (q.l.take (q.l.length - 1)).length = q.l.length - 1 := by rw [List.length_take]; omega
  refine ⟨b2, ?_, ?_, h.base, ?_, h.psmall⟩
  · simp only
    rw [hl, flat_take]
    exact l2
  · simp only
    rw [ints_set]
    exact p2
  · simp only
    omega

set_option maxRecDepth 100000 in
set_option maxHeartbeats 2000000 in
theorem drop_walk (w : World) (B hb n : Nat) (lv pv : Value) (q : Q) (h : HRep w B hb n lv pv q) (hok : Ok n q) (id : Int) (h0 : 0 ≤ id) (h1 : id < n) (hin : pl q.place id ≠ 0) :
    Calls Try.prog 43 #[.pointer (some ⟨hb, 0, none⟩), .int .i64 id] w fun r w' => r = .returned (.tuple #[]) ∧ ∃ lv', HRep w' B hb n lv' pv (drop q id) ∧ Only w w' (HS hb lv pv) ∧ ∀ k, k < w.heap.size → HS hb lv' pv k → HS hb lv pv k := by
  obtain ⟨i, hi, x1, x2⟩ := hok.good.back id h0 h1 hin
  obtain ⟨lb, lc, pb, pc, rfl, hlc, rfl, hpc, l1, l2, n0, n1, n2, f0, f1, dl, dp⟩ := h.forms (by omega) (by omega)
  obtain ⟨c0, c1, g0, g1, l0⟩ := h.cells
  have n0' := n0.symm
  have n1' := n1.symm
  have n2' := n2.symm
  have hs2 := h.psmall
  have hs3 := h.lsmall
  obtain ⟨a, rfl⟩ := Int.eq_ofNat_of_zero_le h0
  have d0 := dp a (by omega)
  rw [x2] at d0
  obtain ⟨m, hm⟩ : ∃ m, q.l.length = m + 1 := ⟨q.l.length - 1, by omega⟩
  obtain ⟨x, hx⟩ : ∃ x, nth q.l m = x := ⟨_, rfl⟩
  have hlast : nth q.l (q.l.length - 1) = x := by rw [hm, ← hx]; rfl
  rw [hm] at c0 hlc hs3 h
  have H := Lib.hid h
  obtain ⟨b, kb⟩ := x
  have hlc0 : (m : Int) ≤ (lc : Int) := by omega
  have hm0 : (0 : Int) ≤ (m : Int) := Int.natCast_nonneg _
  have hm2 : (m : Int) < ((m + 1 : Nat) : Int) := by omega
  have HL := Lib.hid hlast
  have HOK := Lib.hid hok
  have HI := Lib.hid hi
  have HX := Lib.hid hx
  have HX1 := Lib.hid x1
  have HX2 := Lib.hid x2
  have HM := Lib.hid hm
  have hi' : i < m + 1 := by omega
  have hw1 : IntKind.i64.wrap ((i : Int) + 1 - 1) = (i : Int) := i64w (by omega) (by omega) (by omega)
  have hw2 : IntKind.i64.wrap ((m : Int) + 1 - 1) = (m : Int) := i64w (by omega) (by omega) (by omega)
  have hb1 : 0 ≤ b := by have := (hok.good.ids m (by omega)).1; rw [hx] at this; exact this
  have hb2 : b < n := by have := (hok.good.ids m (by omega)).2.1; rw [hx] at this; exact this
  obtain ⟨b, rfl⟩ := Int.eq_ofNat_of_zero_le hb1
  clear h hok hlast hm hx dl dp hin x1 x2 hi f0 f1
  go_enter Try.func43, Try.ntmps43
  go_wp2_with fail
  go_cut [4, 5] (fun v4 v5 wc => v4 = .int .i64 i ∧ v5 = .int .i64 m ∧ Hid (HRep wc B hb n (.slice (some ⟨lb, 0, none⟩) (m + 1) lc) (.slice (some ⟨pb, 0, none⟩) n pc) q) ∧ Hid (Only w wc (fun _ => False)))
  case first =>
    go_quiet (fail)
    go_wp2_with fail
    go_meet
    exact ⟨rfl, rfl, Lib.hid (H.out.only ((Only.refl w (fun _ => False)).drewN _) (fun _ _ f => f)), Lib.hid ((Only.refl w (fun _ => False)).drewN _)⟩
  case rest =>
    obtain ⟨rfl, rfl, HR, HO⟩ := hcut
    clear H c0 c1 g0 g1 l0 d0 l1 l2 hw1 hw2
    obtain ⟨c0, c1, g0, g1, l0⟩ := HR.out.cells
    obtain ⟨lb', lc', pb', pc', e1, _, e2, _, l1, l2, _, _, _, f0, f1, dl, dp⟩ := HR.out.forms (by have := HM.out; omega) (by omega)
    simp only [Value.slice.injEq, Option.some.injEq, Addr.mk.injEq, and_true, true_and] at e1 e2
    obtain ⟨rfl, _, rfl⟩ := e1
    obtain ⟨rfl, rfl⟩ := e2
    obtain ⟨d1, d2⟩ := dl m (by have := HM.out; omega)
    rw [HX.out] at d1 d2
    have d0 := dp a (by omega)
    rw [HX2.out] at d0
    simp only at d1 d2
    have HC : Hid _ := Lib.hid (HR.out.cut (m := m + 1) HM.out a n2 n0 n1)
    clear dl dp
    by_cases hba : b = a
    · subst hba
      have hq : ((b : Int) == (b : Int)) = true := by simp
      go_wp2_with fail
      go_region
      go_wp2_with fail
      refine bodyPost_ret (v := .tuple #[]) (results_none (by rfl) _ _ _) rfl ⟨rfl, .slice (some ⟨lb, 0, none⟩) m lc, ?_, ?_, fun _ _ h => h⟩
      · rw [drop_last (by rw [HL.out])]
        have e : (⟨q.l.take (q.l.length - 1), q.place.set ((b : Int)).toNat 0⟩ : Q) = ⟨q.l.take m, q.place.set b 0⟩ := by rw [HM.out]; rfl
        rw [e]
        exact HC.out.only (((Only.refl _ (fun _ => False)).alloc _).drew) (fun _ _ f => f)
      · exact HO.out.mono (fun _ _ f => f.elim) |>.trans (((((Only.refl wc _).cell hb 0 _ (fun _ => .inl rfl)).cell pb b _ (fun _ => .inr (.inr rfl))).alloc _).drew)
    · have hq : ((b : Int) == (a : Int)) = false := by simp; omega
      have HBA := Lib.hid hba
      go_wp2_with fail
      go_region
      have hd := HOK.out
      obtain ⟨k, k0, k1, k2, k3, k4⟩ := drop_steps HOK.out h0 h1 HI.out HX1.out HX2.out (by rw [HL.out]; show (b : Int) ≠ a; omega)
      obtain ⟨u0, u1, u2, u3, u4, u5⟩ := drop_good HOK.out h0 h1 HI.out HX1.out HX2.out (by rw [HL.out]; show (b : Int) ≠ a; omega)
      have e : Hp.lay ⟨q.l.take m, q.place.set a 0⟩ i ⟨b, kb⟩ = q0drop q a i := by unfold q0drop; rw [HL.out, HM.out]; rfl
      rw [HL.out] at k1
      rw [HM.out] at k0 k2 u2 u4
      have HE := Lib.hid e
      have K4 := Lib.hid k4
      have HI0 := Lib.hid (ids_of_good u0)
      have HL1 : Hid (i < (q0drop q a i).l.length) := Lib.hid (by omega)
      have HI1 := Lib.hid (ids_of_good k3)
      have HL2 : Hid (k < (sink (q0drop q a i) i).l.length) := Lib.hid (by omega)
      have HL3 : Hid (i < (q.l.take m).length) := Lib.hid (by rw [List.length_take, HM.out]; omega)
      have HP2 := Lib.hid k1
      have hk0 : k ≤ m := by omega
      clear hd k0 k1 k2 k3 k4 u0 u1 u2 u3 u4 u5 e hba
      go_wp2_with fail
      refine (lay_walk _ B hb n _ _ ⟨q.l.take m, q.place.set a 0⟩ (HC.out.only (((Only.refl _ (fun _ => False)).alloc _).drew) (fun _ _ f => f)) i b kb HL3.out hb1 hb2).mono ?_
      rintro e w2 ⟨rfl, hS⟩
      rw [HE.out] at hS
      have HR2 := Lib.hid hS.1
      have HO2 := Lib.hid ((HO.out.mono (T := HS hb (.slice (some ⟨lb, 0, none⟩) (m + 1) lc) (.slice (some ⟨pb, 0, none⟩) n pc)) (fun _ _ f => f.elim)).trans ((((((Only.refl wc _).cell hb 0 _ (fun _ => .inl rfl)).cell pb a _ (fun _ => .inr (.inr rfl))).alloc _).drew).trans (hS.2.mono (fun k _ hk _ _ => hk))))
      have HBX : Hid (w2.heap[wc.heap.size]? = some (.cells #[.int .i64 b, .int .i64 kb] 90 (0, 0))) := Lib.hid (by
        have hne : ¬ HS hb (.slice (some ⟨lb, 0, none⟩) m lc) (.slice (some ⟨pb, 0, none⟩) n pc) wc.heap.size := fun f => by
          have hh := HR.out.hs wc.heap.size
          rcases f with f | f | f
          · have := hh (.inl f); omega
          · have := hh (.inr (.inl f)); omega
          · have := hh (.inr (.inr f)); omega
        rw [hS.2.block wc.heap.size (by simp [World.setCell]) hne]
        have := blk_new ((wc.setCell ⟨hb, 0, none⟩ (.slice (some ⟨lb, 0, none⟩) m lc)).setCell ⟨pb, a, none⟩ (.int .i64 0)) (.cells #[.int .i64 b, .int .i64 kb] 90)
        have hsz : ((wc.setCell ⟨hb, 0, none⟩ (.slice (some ⟨lb, 0, none⟩) m lc)).setCell ⟨pb, a, none⟩ (.int .i64 0)).heap.size = wc.heap.size := by rw [World.size_setCell, World.size_setCell]
        rw [hsz] at this
        exact this)
      have HNE : Hid (¬ HS hb (.slice (some ⟨lb, 0, none⟩) m lc) (.slice (some ⟨pb, 0, none⟩) n pc) wc.heap.size) := Lib.hid (fun f => by
          have hh := HR.out.hs wc.heap.size
          rcases f with f | f | f
          · have := hh (.inl f); omega
          · have := hh (.inr (.inl f)); omega
          · have := hh (.inr (.inr f)); omega)
      clear hS HO HC HR c0 c1 g0 g1 l0 l1 l2 f0 f1 d0 d1 d2
      go_wp2_with fail
      refine (sink_walk _ B hb n _ _ _ HR2.out HI0.out i HL1.out).mono ?_
      rintro e w3 ⟨rfl, hS⟩
      have HR3 := Lib.hid hS.1
      have HO3 := Lib.hid (HO2.out.trans (hS.2.mono (fun k _ hk _ => hk)))
      have HBX3 := Lib.hid ((hS.2.block wc.heap.size (blk_lt HBX.out) HNE.out).trans HBX.out)
      clear hS HO2 HR2 HBX
      obtain ⟨_, c1', _, _, l3⟩ := HR3.out.cells
      have b0 := (blk_cell HBX3.out 0).trans rfl
      have b1 := blk_lt HBX3.out
      have d3 : w3.cell? ⟨pb, b, none⟩ = some (.int .i64 ((k : Int) + 1)) := by
        have := (HR3.out.p.cellAt b (by omega)).trans (ints_get _ b (by have := HR3.out.plen; omega))
        rw [show pl (sink (q0drop q (a : Int) i) i).place (b : Int) = (k : Int) + 1 from HP2.out] at this
        exact this
      have hk1 : (k : Int) + 1 - 1 = (k : Int) := by omega
      have hw3 : IntKind.i64.wrap ((k : Int) + 1 - 1) = (k : Int) := i64w (by omega) (by omega) (by omega)
      go_wp2_with fail
      go_still_tail 10, (by kernel_rfl)
      change wpList _ _ _ _ _ w3.drew
      have HR4 := Lib.hid (HR3.out.only ((Only.refl w3 (fun _ => False)).drew) (fun _ _ f => f))
      have HO4 := Lib.hid (HO3.out.trans ((Only.refl w3 _).drew))
      generalize w3.drew = w5 at HR4 HO4 ⊢
      go_wp2_with fail
      refine (rise_walk _ B hb n _ _ _ HR4.out HI1.out k HL2.out).mono ?_
      rintro e w4 ⟨rfl, hS⟩
      go_wp2_with fail
      go_end0
      rw [K4.out]
      exact ⟨rfl, _, hS.1, HO4.out.trans (hS.2.mono (fun k _ hk _ => hk)), fun _ _ h => h⟩
end Go.Proofs.Ytfppfdejjifhdaa.PAll

namespace Go.Proofs.Ytfppfdejjifhdaa.PAll
open Go.RowKit Go.Proofs.YtfppfdejjifhdaaW.PrintWords Go.Proofs.YtfppfdejjifhdaaW.PrintLast Go.Proofs.YtfppfdejjifhdaaW.PrintMore
open Hp hiding Good
set_option linter.unusedVariables false
set_option linter.unusedSimpArgs false

theorem info3' : (Try.prog.info? 3).map (fun i => (i.zero, i.size, i.bytes)) = some (some (.int .i64 0), 1, 8) := by kernel_rfl

theorem ints_zero (n : Nat) : ints (List.replicate n 0) = (madeCells #[.int .i64 0] n).toList := by
  rw [toList_madeCells_one]
  simp [ints]

/-- heap.New -/
theorem new_walk (w : World) (n : Nat) (hn : n ≤ 1000) :
    Calls Try.prog 28 #[.int .i64 n] w fun r w' => ∃ hb pv, r = .returned (.pointer (some ⟨hb, 0, none⟩)) ∧ w.heap.size ≤ hb ∧ HRep w' w.heap.size hb n (.slice none 0 0) pv ⟨[], List.replicate n 0⟩ ∧ Below w.heap.size w w' := by
  obtain ⟨i0, hi0, hz0, hz1, hz2⟩ := info_parts info3'
  have h0 : decide ((n : Int) < 0) = false := by simp
  have h1 : decide ((n : Int) > 16777216) = false := by simp; omega
  have h2 : decide ((16777216 : Int) < (n : Int)) = false := by simp; omega
  have h3 : decide (16777216 < n) = false := by simp; omega
  go_enter Try.func28, Try.ntmps28
  go_wp2_with (first | (at_make; refine wpList_make_full _ (by rfl) _ _ _ (by rfl) w.heap.size 3 i0 (.int .i64 0) 1 Try.underlying44 hi0 hz0 hz1 .i64 .i64 _ _ n (by rfl) (by rfl) rfl rfl (by rw [hz2]; omega) (by simp only [maxLen]; omega) (Nat.le_refl _) ?_; intro w1 hown hgrow))
  go_ret
  have hsz := hgrow.size
  refine ⟨w1.heap.size, .slice (some ⟨w.heap.size, 0, none⟩) n n, rfl, hsz, ⟨blk_new w1 _, ?_, ?_, hsz, by simp, hn⟩, ?_⟩
  · exact World.ownsRow_nil _ _ _ _
  · rw [ints_zero]
    have := hown.alloc (.cells #[.slice none 0 0, .slice (some ⟨w.heap.size, 0, none⟩) n n] 88)
    simpa [Value.cells] using this
  · exact ((Below.refl w.heap.size w).grown hgrow (Nat.le_refl _) (fun k hk => by cases hk)).alloc hsz _

/-- (*Heap).may -/
theorem may_walk (w : World) (B hb n : Nat) (lv pv : Value) (q : Q) (h : HRep w B hb n lv pv q) (id : Int) (h0 : 0 ≤ id) (h1 : id < n) :
    Calls Try.prog 40 #[.pointer (some ⟨hb, 0, none⟩), .int .i64 id] w fun r w' => r = .returned (.bool true) ∧ w = w' := by
  obtain ⟨c0, c1, g0, g1, l0⟩ := h.cells
  obtain ⟨pb, pc, rfl, hpc⟩ := own_form h.p (by omega)
  have hs := h.psmall
  have d0 : decide (id ≥ 0) = true := by simpa using h0
  have d1 : decide (id < (n : Int)) = true := by simpa using h1
  clear h
  go_enter Try.func40, Try.ntmps40
  go_wp2
  go_ret
  exact ⟨rfl, rfl⟩

/-- (*Heap).Len -/
theorem len_walk (w : World) (B hb n : Nat) (lv pv : Value) (q : Q) (h : HRep w B hb n lv pv q) :
    Calls Try.prog 50 #[.pointer (some ⟨hb, 0, none⟩)] w fun r w' => r = .returned (.int .i64 q.l.length) ∧ w = w' := by
  obtain ⟨c0, c1, g0, g1, l0⟩ := h.cells
  obtain ⟨A, cl, hlv⟩ : ∃ A cl, lv = .slice A q.l.length cl := by
    rcases h.l.2 with ⟨rfl, e⟩ | ⟨g, cap, cur, rfl, _, _, hc, _⟩
    · exact ⟨none, 0, by rw [e]⟩
    · exact ⟨_, cap, rfl⟩
  generalize q.l.length = m at *
  subst hlv
  clear h
  go_enter Try.func50, Try.ntmps50
  go_wp2
  go_ret
  exact ⟨rfl, rfl⟩

/-- (*Heap).Set -/
theorem set_walk (w : World) (B hb n : Nat) (lv pv : Value) (q : Q) (h : HRep w B hb n lv pv q) (hok : Ok n q) (id key : Int) (h0 : 0 ≤ id) (h1 : id < n) (hlen : q.l.length + 1 ≤ 1000) :
    Calls Try.prog 31 #[.pointer (some ⟨hb, 0, none⟩), .int .i64 id, .int .i64 key] w fun r w' => r = .returned (.bool true) ∧ ∃ lv', HRep w' B hb n lv' pv (put q id key) ∧ Only w w' (HS hb lv pv) ∧ ∀ k, k < w.heap.size → HS hb lv' pv k → HS hb lv pv k := by
  have H1 := Lib.hid (may_walk w B hb n lv pv q h id h0 h1)
  have H2 := Lib.hid (put_walk w B hb n lv pv q h hok id key h0 h1 hlen)
  clear h hok
  go_enter Try.func31, Try.ntmps31
  go_wp2_with (first | (go_at_call 40; refine H1.out.mono ?_; rintro e w' ⟨rfl, rfl⟩) | (go_at_call 41; refine H2.out.mono ?_; rintro e w1 ⟨rfl, hq⟩; have HQ := Lib.hid hq; clear hq))
  go_ret
  exact ⟨rfl, HQ.out⟩

/-- (*Heap).First -/
theorem first_none (w : World) (B hb n : Nat) (lv pv : Value) (q : Q) (h : HRep w B hb n lv pv q) (hq : q.l = []) :
    Calls Try.prog 42 #[.pointer (some ⟨hb, 0, none⟩)] w fun r w' => r = .returned (.tuple #[.int .i64 0, .int .i64 0, .bool false]) ∧ w = w' := by
  have H1 := len_walk w B hb n lv pv q h
  rw [hq] at H1
  have H2 := Lib.hid H1
  clear h H1 hq
  go_enter Try.func42, Try.ntmps42
  go_wp2_with (first | (go_at_call 50; refine H2.out.mono ?_; rintro e w' ⟨rfl, rfl⟩))
  go_ret3
  exact ⟨rfl, rfl⟩
theorem first_some (w : World) (B hb n : Nat) (lv pv : Value) (q : Q) (h : HRep w B hb n lv pv q) (hq : 0 < q.l.length) (hn : 0 < n) :
    Calls Try.prog 42 #[.pointer (some ⟨hb, 0, none⟩)] w fun r w' => r = .returned (.tuple #[.int .i64 (nth q.l 0).id, .int .i64 (nth q.l 0).key, .bool true]) ∧ Drawn0 w w' := by
  have H1 := len_walk w B hb n lv pv q h
  obtain ⟨c0, c1, g0, g1, l0⟩ := h.cells
  obtain ⟨lb, lc, pb, pc, rfl, hlc, rfl, hpc, l1, l2, n0, n1, n2, f0, f1, dl, dp⟩ := h.forms hq hn
  obtain ⟨d0, d1⟩ := dl 0 hq
  generalize nth q.l 0 = e at *
  obtain ⟨a, k⟩ := e
  have hd : (((q.l.length : Int)) == 0) = false := by rw [beq_eq_false_iff_ne]; omega
  have hl0 : (0 : Int) < (q.l.length : Int) := by omega
  generalize q.l.length = m at *
  have H2 := Lib.hid H1
  simp only [Nat.zero_mul, Nat.zero_add] at d0 d1
  clear h H1 dl dp f0 f1
  go_enter Try.func42, Try.ntmps42
  go_wp2_with (first | (go_at_call 50; refine H2.out.mono ?_; rintro e w' ⟨rfl, rfl⟩))
  go_quiet (fail)
  go_wp2_with fail
  go_ret3
  exact ⟨rfl, ⟨_, rfl⟩⟩

/-- (*Heap).Pop -/
theorem pop_none (w : World) (B hb n : Nat) (lv pv : Value) (q : Q) (h : HRep w B hb n lv pv q) (hq : q.l = []) :
    Calls Try.prog 32 #[.pointer (some ⟨hb, 0, none⟩)] w fun r w' => r = .returned (.tuple #[.int .i64 0, .int .i64 0, .bool false]) ∧ w = w' := by
  have H2 := Lib.hid (first_none w B hb n lv pv q h hq)
  clear h hq
  go_enter Try.func32, Try.ntmps32
  go_wp2_with (first | (go_at_call 42; refine H2.out.mono ?_; rintro e w' ⟨rfl, rfl⟩))
  go_ret3
  exact ⟨rfl, rfl⟩
theorem pop_some (w : World) (B hb n : Nat) (lv pv : Value) (q : Q) (h : HRep w B hb n lv pv q) (hok : Ok n q) (hq : 0 < q.l.length) :
    Calls Try.prog 32 #[.pointer (some ⟨hb, 0, none⟩)] w fun r w' => r = .returned (.tuple #[.int .i64 (nth q.l 0).id, .int .i64 (nth q.l 0).key, .bool true]) ∧ ∃ lv', HRep w' B hb n lv' pv (drop q (nth q.l 0).id) ∧ Only w w' (HS hb lv pv) ∧ ∀ k, k < w.heap.size → HS hb lv' pv k → HS hb lv pv k := by
  have hid := hok.good.ids 0 hq
  have hn0 : 0 < n := by have := hid.1; have := hid.2.1; omega
  have H2 := Lib.hid (first_some w B hb n lv pv q h hq hn0)
  have H3 : Hid (∀ j, Calls Try.prog 43 #[.pointer (some ⟨hb, 0, none⟩), .int .i64 (nth q.l 0).id] (w.drewN j) fun r w' => r = .returned (.tuple #[]) ∧ ∃ lv', HRep w' B hb n lv' pv (drop q (nth q.l 0).id) ∧ Only w w' (HS hb lv pv) ∧ ∀ k, k < w.heap.size → HS hb lv' pv k → HS hb lv pv k) := Lib.hid (fun j => by
    refine (drop_walk (w.drewN j) B hb n lv pv q (h.only ((Only.refl w (fun _ => False)).drewN j) (fun _ _ f => f)) hok _ hid.1 hid.2.1 (by omega)).mono ?_
    rintro e w' ⟨h1, lv', h2, h3, h4⟩
    exact ⟨h1, lv', h2, ((Only.refl w _).drewN j).trans (h3.mono (fun k _ hk _ => hk)), h4⟩)
  clear h hok hid
  generalize nth q.l 0 = e at *
  obtain ⟨a, k⟩ := e
  go_enter Try.func32, Try.ntmps32
  go_wp2_with (first | (go_at_call 42; refine H2.out.mono ?_; rintro e w' ⟨rfl, ⟨⟨j, rfl⟩⟩⟩) | (go_at_call 43; refine (H3.out _).mono ?_; rintro e w1 ⟨rfl, hq⟩; have HQ := Lib.hid hq; clear hq))
  go_ret3
  exact ⟨rfl, HQ.out⟩

/-- (*Heap).Key -/
theorem key_none (w : World) (B hb n : Nat) (lv pv : Value) (q : Q) (h : HRep w B hb n lv pv q) (id : Int) (h0 : 0 ≤ id) (h1 : id < n) (hk : key q id = none) :
    Calls Try.prog 30 #[.pointer (some ⟨hb, 0, none⟩), .int .i64 id] w fun r w' => r = .returned (.tuple #[.int .i64 0, .bool false]) ∧ w = w' := by
  have H1 := Lib.hid (may_walk w B hb n lv pv q h id h0 h1)
  have hz : pl q.place id = 0 := by
    unfold key at hk
    by_cases e : pl q.place id = 0
    · exact e
    · rw [if_neg e] at hk; cases hk
  obtain ⟨c0, c1, g0, g1, l0⟩ := h.cells
  have hp := h.plen
  obtain ⟨pb, pc, rfl, hpc⟩ := own_form h.p (by omega)
  obtain ⟨a, rfl⟩ := Int.eq_ofNat_of_zero_le h0
  have d0 : w.cell? ⟨pb, a, none⟩ = some (.int .i64 0) := by
    have := (h.p.cellAt a (by omega)).trans (ints_get q.place a (by omega))
    rw [hz] at this
    exact this
  clear h hk hz hp
  go_enter Try.func30, Try.ntmps30
  go_wp2_with (first | (go_at_call 40; refine H1.out.mono ?_; rintro e w' ⟨rfl, rfl⟩))
  go_ret2
  exact ⟨rfl, rfl⟩
theorem key_some (w : World) (B hb n : Nat) (lv pv : Value) (q : Q) (h : HRep w B hb n lv pv q) (hok : Ok n q) (id k : Int) (h0 : 0 ≤ id) (h1 : id < n) (hk : key q id = some k) :
    Calls Try.prog 30 #[.pointer (some ⟨hb, 0, none⟩), .int .i64 id] w fun r w' => r = .returned (.tuple #[.int .i64 k, .bool true]) ∧ Drawn0 w w' := by
  have H1 := Lib.hid (may_walk w B hb n lv pv q h id h0 h1)
  obtain ⟨i, hi, hx, hpi⟩ := hok.good.key_some h0 h1 hk
  obtain ⟨c0, c1, g0, g1, l0⟩ := h.cells
  have hs := h.lsmall
  have hs2 := h.psmall
  obtain ⟨lb, lc, pb, pc, rfl, hlc, rfl, hpc, l1, l2, n0, n1, n2, f0, f1, dl, dp⟩ := h.forms (by omega) (by omega)
  obtain ⟨a, rfl⟩ := Int.eq_ofNat_of_zero_le h0
  obtain ⟨d0, d1⟩ := dl i hi
  have d2 := dp a (by omega)
  rw [hpi] at d2
  rw [hx] at d0 d1
  simp only at d0 d1
  have hw1 : IntKind.i64.wrap ((i : Int) + 1 - 1) = (i : Int) := i64w (by omega) (by omega) (by omega)
  have hz : (((i : Int) + 1) == 0) = false := by rw [beq_eq_false_iff_ne]; omega
  have hi0 : (0 : Int) ≤ (i : Int) := Int.natCast_nonneg _
  have hi1 : (i : Int) < (q.l.length : Int) := by omega
  generalize q.l.length = m at *
  clear h hk hok dl dp hpi hx f0 f1
  go_enter Try.func30, Try.ntmps30
  go_wp2_with (first | (go_at_call 40; refine H1.out.mono ?_; rintro e w' ⟨rfl, rfl⟩))
  go_quiet (fail)
  go_wp2_with fail
  go_ret2
  exact ⟨rfl, ⟨_, rfl⟩⟩
end Go.Proofs.Ytfppfdejjifhdaa.PAll
