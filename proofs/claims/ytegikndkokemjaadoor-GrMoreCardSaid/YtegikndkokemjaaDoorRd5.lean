import Derived.Test.YtegikndkokemjaaDoorRd3
import Derived.Test.YtegikndkokemjaaDoorSplit
namespace Go.Proofs.YtegikndkokemjaaDoor.PAll
open Go.RowKit Go.Proofs.YtegikndkokemjaaDoorW.PrintWords Go.Proofs.YtegikndkokemjaaDoorW.PrintLast Go.Proofs.YtegikndkokemjaaDoorW.PrintMore
open GrFn
set_option linter.unusedVariables false
set_option linter.unusedSimpArgs false

theorem numbers_three {ws : List (List UInt8)} {m1 m2 m3 a b c : Int} (h : numbers ws [m1, m2, m3] = some [a, b, c]) : (0 ≤ a ∧ a ≤ m1) ∧ (0 ≤ b ∧ b ≤ m2) := by
  match ws, h with
  | [], h => cases h
  | x :: r, h =>
    rw [numbers_cons] at h
    cases hx : number x m1 with
    | none => rw [hx] at h; cases h
    | some n1 =>
      rw [hx] at h
      cases hr : numbers r [m2, m3] with
      | none => rw [hr] at h; cases h
      | some l =>
        rw [hr] at h
        have hl : n1 :: l = [a, b, c] := Option.some.inj h
        injection hl with h1 h2
        subst h1 h2
        exact ⟨number_bound hx, (numbers_two hr).1⟩

theorem arc_any (t : St) (A : Option Addr) (c : Nat) (ws : List ByteArray) (B0 rb : Nat) (v : Value) (w : World) (h : Rdr w B0 rb v t) (hB0 : B0 ≤ w.heap.size) (hw : Kd.C Kd.string w A ws.length ws) (hg : ws.length ≤ c) :
    Calls Tryd.prog 36 #[.pointer (some ⟨rb, 0, none⟩), .slice A ws.length c] w fun e w' => StepTo w B0 rb v t (GrFn.arc t (ws.map bytes)) e w' := by
  have same : ∀ {e w'}, (e = .returned (.bool false) ∧ Below w.heap.size w w') → StepTo w B0 rb v t none e w' := by
    rintro e w' ⟨rfl, hb⟩
    exact step_same h hb
  cases hn : numbers (ws.map bytes) [t.n, t.n, 2147483648] with
  | none =>
    have : GrFn.arc t (ws.map bytes) = none := by unfold GrFn.arc; rw [hn]
    rw [this]
    exact (arc_no1 t A c ws B0 rb v w h hw hg hn).mono fun _ _ => same
  | some l =>
    have hl := numbers_length hn
    match l, hl with
    | [x, y, z], _ =>
      have hs : GrFn.arc t (ws.map bytes) = if x = 0 ∨ y = 0 ∨ (t.arcs.length : Int) ≥ t.many then none else some { t with arcs := t.arcs ++ [⟨x - 1, y - 1, z⟩] } := by
        unfold GrFn.arc
        rw [hn]
      rw [hs]
      obtain ⟨⟨hx0, hx1⟩, hy0, hy1⟩ := numbers_three hn
      have hn1 := h.n1
      by_cases hx : x = 0
      · rw [if_pos (.inl hx)]
        exact (arc_no2 t A c ws B0 rb v w h hw hg x y z hn (by simpa using hx)).mono fun _ _ => same
      · by_cases hy : y = 0
        · rw [if_pos (.inr (.inl hy))]
          exact (arc_no3 t A c ws B0 rb v w h hw hg x y z hn (by simpa using hx) (by simpa using hy)).mono fun _ _ => same
        · by_cases hm : (t.arcs.length : Int) ≥ t.many
          · rw [if_pos (.inr (.inr hm))]
            exact (arc_no4 t A c ws B0 rb v w h hw hg x y z hn (by simpa using hx) (by simpa using hy) hm).mono fun _ _ => same
          · rw [if_neg (by simp [hx, hy]; omega)]
            exact arc_yes t A c ws B0 rb v w h hB0 hw hg x y z hn (by simpa using hx) (by simpa using hy) (by omega) hx0 (by omega) hy0 (by omega)

/-- the words of a line -/
def wordsOf (s : ByteArray) : List ByteArray := (Split.frags 32 s).filter fun x => !x.toList.isEmpty
theorem wordsOf_bytes (s : ByteArray) : (wordsOf s).map bytes = GrFn.words (bytes s) := by
  unfold wordsOf GrFn.words Split.frags
  show List.map bytes (List.filter _ (List.map _ (cutAt 32 (bytes s)))) = _
  rw [List.filter_map, List.map_map]
  have e1 : bytes ∘ (fun l : List UInt8 => (⟨l.toArray⟩ : ByteArray)) = id := by funext l; rfl
  have e2 : (fun x : ByteArray => !x.toList.isEmpty) ∘ (fun l : List UInt8 => (⟨l.toArray⟩ : ByteArray)) = fun l => !l.isEmpty := by
    funext l
    show (!(⟨l.toArray⟩ : ByteArray).toList.isEmpty) = _
    rw [Lib.toList_data]
  rw [e1, e2, List.map_id]

theorem wordsOf_snoc (pre : List ByteArray) (x : ByteArray) : (pre ++ [x]).filter (fun x => !x.toList.isEmpty) = pre.filter (fun x => !x.toList.isEmpty) ++ if x.toList.isEmpty then [] else [x] := by
  rw [List.filter_append]
  cases h : x.toList.isEmpty <;> simp [h]

/-- a turn of a block that is no cells leaves the reader -/
theorem rdr_put {W : World} {B0 rb : Nat} {v : Value} {t : St} (h : Rdr W B0 rb v t) {D : Nat} {o : Obj} (o' : Obj) (hD : W.heap[D]? = some o) (ho : o.isCells = false) : Rdr (W.putObj D o') B0 rb v t := by
  have hne : rb ≠ D := fun e => by have hb := h.blk; rw [e, hD] at hb; cases hb; cases ho
  refine ⟨(World.putObj_heap_other hne).trans h.blk, ?_, h.base, h.n0, h.n1, h.m0, h.m1, h.len⟩
  refine Kd.R_mono (Kd.R_move (Kd.R_bound h.arcs) (fun k hk => World.putObj_heap_other (fun e => ?_))) (fun _ hk => hk.1)
  obtain ⟨_, _, _, q, _, cells, hc⟩ := hk
  rw [e, hD] at hc
  cases hc
  cases ho

theorem below_put {W : World} {B D : Nat} {w : World} (o' : Obj) (hb : Below B w W) (hB : B ≤ D) : Below B w (W.putObj D o') :=
  ⟨hb.os, hb.tape, hb.output, by simpa using hb.size, fun k hk => (World.putObj_heap_other (by omega)).trans (hb.block k hk)⟩

theorem step_put {w W : World} {B0 rb : Nat} {v : Value} {t : St} {q : Option St} {e : Ending} (h : StepTo w B0 rb v t q e W) {D : Nat} {o : Obj} (o' : Obj) (hD : W.heap[D]? = some o) (ho : o.isCells = false) (hB : B0 ≤ D) (hw : w.heap.size ≤ D) :
    StepTo w B0 rb v t q e (W.putObj D o') := by
  obtain ⟨he, v', h1, h2, h3⟩ := h
  refine ⟨he, v', rdr_put h1 o' hD ho, below_put o' h2 hB, ⟨by simpa using h3.1, fun i hi hn => (World.putObj_heap_other (by omega)).trans (h3.2 i hi hn)⟩⟩

end Go.Proofs.YtegikndkokemjaaDoor.PAll

namespace Go.Proofs.YtegikndkokemjaaDoor.PAll
open Go.RowKit Go.Proofs.YtegikndkokemjaaDoorW.PrintWords Go.Proofs.YtegikndkokemjaaDoorW.PrintLast Go.Proofs.YtegikndkokemjaaDoorW.PrintMore
open GrFn Go.Shelf
open Range (SeqCell wpIn_rangeFunc_cell)
set_option linter.unusedVariables false
set_option linter.unusedSimpArgs false
attribute [local go_sem] Oper.semAt_some

theorem Tryd_info9 : (Tryd.prog.info? 9).map (fun i => (i.zero, i.size, i.bytes)) = some (some (.string ByteArray.empty), 1, 16) := by kernel_rfl

/-- the words so far: their box, their row, in blocks behind the iterator's -/
structure Words (w : World) (pre : List ByteArray) (W : World) : Prop where
  box : ∃ v, Boxed W w.heap.size 60 v ∧ W.ownsRow (w.heap.size + 4) 9 1 v (pre.filter fun x => !x.toList.isEmpty).length ((pre.filter fun x => !x.toList.isEmpty).map Value.string)
  below : Below w.heap.size w W
  size : w.heap.size + 4 ≤ W.heap.size

theorem Words.cell {w W : World} {pre : List ByteArray} (h : Words w pre W) (u : Value) : Words w pre (W.setCell ⟨w.heap.size + 1, 0, none⟩ u) := by
  obtain ⟨⟨v, hb, hr⟩, hB, hs⟩ := h
  refine ⟨⟨v, hb.other (by omega) u, hr.kept (grownBy_setCell' W _ u) ?_⟩, hB.setCell (p := ⟨w.heap.size + 1, 0, none⟩) (by simp) _, by simpa [World.setCell] using hs⟩
  rcases hr.2 with ⟨rfl, _⟩ | ⟨g, cap, cur, rfl, hg, _, _⟩
  · exact .inl rfl
  · exact .inr (by simp [Value.ownBlock]; omega)

theorem words_own (w : World) (B : Nat) (hB : w.heap.size + 4 ≤ B) : OwnFrom B (fun pre W => Words w pre W) := by
  rintro pre W W' row ⟨⟨v, hb, hr⟩, hbl, hs⟩ hg hrow
  have hcell : ∀ k o, W.heap[k]? = some o → o.isCells = true → some k ≠ row := fun k o hk ho e => by
    obtain ⟨_, o', ho', hc⟩ := hrow k e.symm
    rw [hk] at ho'; cases ho'
    rw [ho] at hc; cases hc
  refine ⟨⟨v, hb.kept hg (hcell _ _ hb rfl), hr.kept hg ?_⟩, hbl.grown hg hbl.size (fun k e => by have := (hrow k e).1; omega), Nat.le_trans hs hg.size⟩
  rcases hr.2 with ⟨rfl, _⟩ | ⟨g, cap, cur, rfl, hgb, hh, _⟩
  · exact .inl rfl
  · exact .inr (hcell g _ hh rfl)

theorem frags_length (c : UInt8) (s : ByteArray) : (Split.frags c s).length ≤ s.size + 1 := by
  unfold Split.frags
  rw [List.length_map, Lib.size_eq s]
  generalize s.data.toList = l
  induction l with
  | nil => simp [cutAt]
  | cons a r ih =>
    unfold cutAt
    split
    · simp; omega
    · split
      · simp
      · rename_i h
        rw [h] at ih
        simp at ih ⊢
        omega

/-- one word more -/
theorem words_step {w W w1 : World} {pre : List ByteArray} {x : ByteArray} {v : Value} {g' cap' : Nat} (hne : x.toList.isEmpty = false) (hv : Boxed W w.heap.size 60 v)
    (hrow : W.ownsRow (w.heap.size + 4) 9 1 v (pre.filter fun x => !x.toList.isEmpty).length ((pre.filter fun x => !x.toList.isEmpty).map Value.string)) (hB : Below w.heap.size w W) (hs : w.heap.size + 4 ≤ W.heap.size) {tmp : Obj}
    (hown' : w1.ownsRow (w.heap.size + 4) 9 1 (.slice (some ⟨g', 0, none⟩) ((pre.filter fun x => !x.toList.isEmpty).length + 1) cap') ((pre.filter fun x => !x.toList.isEmpty).length + 1) ((pre.filter fun x => !x.toList.isEmpty).map Value.string ++ [.string x]))
    (hgrow : (W.alloc tmp).grownBy w1 v.ownBlock) :
    KeepsOthers W (w1.setCell ⟨w.heap.size, 0, none⟩ (.slice (some ⟨g', 0, none⟩) ((pre.filter fun x => !x.toList.isEmpty).length + 1) cap')) ∧
    Split.Keeps (w.heap.size + 1) W (w1.setCell ⟨w.heap.size, 0, none⟩ (.slice (some ⟨g', 0, none⟩) ((pre.filter fun x => !x.toList.isEmpty).length + 1) cap')) ∧
    Words w (pre ++ [x]) (w1.setCell ⟨w.heap.size, 0, none⟩ (.slice (some ⟨g', 0, none⟩) ((pre.filter fun x => !x.toList.isEmpty).length + 1) cap')) := by
  obtain ⟨hv1, hv2, _, hk2, hb2⟩ := hv.appended (n₀ := w.heap.size) (by decide) (own_weaken hrow (by omega)) hB.size (Nat.le_refl _) (own_weaken hown' (by omega)) hgrow
  refine ⟨hk2, fun k h1 h2 => ?_, ⟨⟨_, hv2, ?_⟩, hB.trans hb2, Nat.le_trans hs hb2.size⟩⟩
  · refine (Below.heap_setCell _ _ _ k (by simp; omega)).trans ((hgrow.block k (by simp; omega) ?_).trans (Below.heap_alloc _ _ _ (by omega)))
    rcases hrow.2 with ⟨rfl, _⟩ | ⟨g, cap, cur, rfl, hg, _, _⟩
    · simp [Value.ownBlock]
    · simp [Value.ownBlock]; omega
  · rw [wordsOf_snoc, hne]
    have := hown'.kept (grownBy_setCell' w1 w.heap.size (.slice (some ⟨g', 0, none⟩) ((pre.filter fun x => !x.toList.isEmpty).length + 1) cap')) (.inr (hv1.not_row (by decide) hown').symm)
    simpa using this

theorem step_from {w W W' : World} {B0 rb : Nat} {v : Value} {t : St} {q : Option St} {e : Ending} (hB : Below w.heap.size w W) (hB0 : B0 ≤ w.heap.size) (h : StepTo W B0 rb v t q e W') : StepTo w B0 rb v t q e W' := by
  obtain ⟨he, v', h1, h2, h3⟩ := h
  exact ⟨he, v', h1, (hB.mono hB0).trans h2, ⟨Nat.le_trans hB.size h3.1, fun i hi hn => (h3.2 i (Nat.lt_of_lt_of_le hi hB.size) hn).trans (hB.block i hi)⟩⟩

theorem step_here {W : World} {B0 rb : Nat} {v : Value} {t : St} {b : Bool} {q : Option St} (h : Rdr W B0 rb v t) (hq : q = if b then some t else none) : StepTo W B0 rb v t q (.returned (.bool b)) W := by
  subst hq
  cases b
  · exact ⟨rfl, v, h, Below.refl _ _, Kept.refl _ _⟩
  · exact ⟨rfl, v, h, Below.refl _ _, Kept.refl _ _⟩

theorem keeps_deferred {W W' : World} {B0 rb : Nat} {v : Value} {t : St} {q : Option St} {e : Ending} (hR : Rdr W B0 rb v t) (h : StepTo W B0 rb v t q e W') {D : Nat} {l : Option (List Deferred)} (hK : W.heap[D]? = some (.deferred l)) : W'.heap[D]? = some (.deferred l) := by
  obtain ⟨_, _, _, _, h3⟩ := h
  refine (h3.2 D (Array.getElem?_eq_some_iff.1 hK).1 ?_).trans hK
  rintro (rfl | e)
  · have := hR.blk.symm.trans hK
    cases this
  · obtain ⟨cells, hc⟩ := Kd.R_typed hR.arcs D e.symm
    rw [hK] at hc
    cases hc

theorem line_nil {t : St} {s : List UInt8} (h : GrFn.words s = []) : GrFn.line t s = some t := by unfold GrFn.line; rw [h]
theorem line_cons {t : St} {s : List UInt8} {x : List UInt8} {r : List (List UInt8)} (h : GrFn.words s = x :: r) : GrFn.line t s = if x = [99] then some t else if x = [112] then GrFn.size t r else if x = [97] then GrFn.arc t r else none := by unfold GrFn.line; rw [h]

set_option maxRecDepth 100000 in
set_option maxHeartbeats 2000000 in
theorem line_any (t : St) (s : ByteArray) (hs : s.size ≤ 2147483648) (B0 rb : Nat) (v : Value) (w : World) (h : Rdr w B0 rb v t) (hB0 : B0 ≤ w.heap.size) :
    Calls Tryd.prog 24 #[.pointer (some ⟨rb, 0, none⟩), .string s] w fun e w' => StepTo w B0 rb v t (GrFn.line t (bytes s)) e w' := by
  refine (callsIn_wide (n := 6)).1 ?_
  refine callsIn_of_wp_marks Tryd.func24 rfl trivial ?_ rfl
  simp only [Tryd.ntmps24, List.size_toArray, List.length_cons, List.length_nil, Nat.reduceAdd, Nat.reduceSub, Array.replicate_succ, Array.replicate_zero, List.push_toArray, List.append_toArray, List.nil_append, List.cons_append]
  gi_wp2_with (refine ⟨trivial, ?_⟩; gi_at_call 23; refine (callsIn_wide.2 (Split.splitseq_any _ _ _)).mono ?_; rintro e w' ⟨rfl, hW⟩)
  obtain ⟨k0, k1, k2, kb, ksz⟩ := Split.boxes (w.alloc (.cells #[.slice none 0 0] 60)) s ⟨#[32]⟩ w' hW
  rw [World.size_alloc] at k0 k1 k2 ksz
  have bO := Boxed.new w 60 (.slice none 0 0)
  have hB0' : Below w.heap.size w w' := ((Below.refl _ w).alloc (Nat.le_refl _) _).trans (kb.mono (by simp))
  have bO' : Boxed w' w.heap.size 60 (.slice none 0 0) := (kb.block _ (by simp)).trans bO
  obtain ⟨i0, hi, hz0, hz1, hz2⟩ := info_parts Tryd_info9
  have hfl := frags_length 32 s
  clear hW kb bO
  refine wpIn_rangeFunc_cell (cb := w.heap.size + 1) rfl (by omega) (gf := 50) (lb := #[.pointer (some ⟨w.heap.size + 1 + 1, 0, none⟩), .pointer (some ⟨w.heap.size + 1, 0, none⟩), .pointer (some ⟨w.heap.size + 1 + 2, 0, none⟩)]) rfl trivial (enters_of Tryd.func50 (by kernel_rfl) rfl)
    (by omega) (Split.split_seq 5 (by omega) (w.heap.size + 1) 32 s hs w' k0 k1 k2)
    (fun h k i h1 h2 => (k i h1 h2).trans (h i h1 h2)) (fun W l o o' hl _ _ _ i h1 h2 => World.putObj_heap_other (by omega)) (Below.refl _ _) (fun _ => rfl)
    (Words w) (fun _ _ _ => False) (fun s W u h => h.cell u) (fun _ _ _ _ h => h) (words_own w _ (by omega)) (fun _ _ _ _ _ h _ _ => h)
    ⟨⟨_, bO', World.ownsRow_nil _ _ _ _⟩, hB0', by omega⟩
    (fun x => { tmps := #[Value.pointer (some { block := rb, off := 0 }), Value.string s, undef, undef, Value.bool false,
          Value.pointer (some { block := w.heap.size, off := 0 }), .string x, Value.string s,
          Value.func (Fn.func 50) #[]
            #[Value.pointer (some { block := w.heap.size + 1 + 1, off := 0 }),
              Value.pointer (some { block := w.heap.size + 1, off := 0 }),
              Value.pointer (some { block := w.heap.size + 1 + 2, off := 0 })],
          .string x, undef, undef, undef, undef, undef, undef, undef, undef, undef, undef, undef, undef, undef, undef,
          undef, undef, undef, undef, undef, undef, undef, undef, undef, undef, undef, undef], defers := [] }) ?assign ?body ?done ?stop
  case assign =>
    intro l x W K hK
    gi_wp2
    exact hK
  case body =>
    rintro l pre x W ⟨⟨u, hv, hrow⟩, hB, hsz⟩ hlt
    have hc := hv.cell
    have hpl : (pre.filter fun x => !x.toList.isEmpty).length ≤ pre.length := List.length_filter_le _ _
    cases hx : x.toList.isEmpty with
    | true =>
      have hx' : x.toList = [] := by simpa using hx
      gi_wp2
      refine ⟨KeepsOthers.refl _, fun _ _ _ => rfl, ⟨⟨u, hv, ?_⟩, hB, hsz⟩⟩
      rw [wordsOf_snoc, hx, if_pos rfl, List.append_nil]
      exact hrow
    | false =>
      gi_wp2_with (gi_at_builtin; refine wpListIn_append_own _ rfl _ _ 60 rfl (w.heap.size + 4) 9 i0 (.string ByteArray.empty) 1 16 Tryd.underlying60 hi hz0 hz1 hz2 rfl (by decide) _ _ _ rfl (hrow.alloc _) ⟨W.heap.size, 0, none⟩ 1 1 [.string x] rfl rfl (cell_one_new _ _ _) (by simp [Value.oneCell']) (by unfold maxLen; omega) (by omega) (by simp; omega) ?_; intro v' w1 hown' hgrow _; obtain ⟨g', cap', rfl⟩ := ownsRow_succ hown'; have hstep := words_step hx hv hrow hB hsz hown' hgrow; have hv1 : Boxed w1 w.heap.size 60 u := (hv.alloc _).kept hgrow (hv.not_row (by decide) hrow); have hc1 := hv1.cell; have hf1 := hv1.frozen)
      exact hstep
  case done =>
    rintro D ys W hD rfl ⟨⟨u, hv, hrow⟩, hB, hsz⟩ hK
    have hc := hv.cell
    have hRw : Kd.R Kd.string 9 W (w.heap.size + 4) (fun _ => True) u (wordsOf s) := Kd.R_of_own hrow (fun _ _ => trivial)
    have hwb := wordsOf_bytes s
    obtain ⟨A, c, rfl, hcap, hC⟩ := Kd.R_reads hRw
    have hRd := rdr_below h hB
    have hsz0 : B0 ≤ W.heap.size := by omega
    clear hrow hRw k0 k1 k2 bO' hi hz0 hz1 hz2 hv hfl
    cases hws : wordsOf s with
    | nil =>
      rw [hws] at hwb hc hC
      have hfin : StepTo w B0 rb v t (GrFn.line t (bytes s)) (.returned (.bool true)) W := by
        rw [line_nil hwb.symm]
        exact step_from hB hB0 (step_here hRd rfl)
      have HF := Lib.hid hfin
      clear hfin hwb hws
      gi_wp2
      refine ⟨by simp, .inl ⟨_, _, rfl, run_takeDeferred hK, ?_⟩⟩
      refine ⟨_, results_tmp rfl _ _ _, ?_⟩
      exact step_put HF.out _ hK rfl (by omega) (by omega)
    | cons x r =>
      rw [hws] at hwb hc hC hcap
      rw [List.map_cons] at hwb
      have hl := line_cons (t := t) hwb.symm
      obtain ⟨ad, rfl, hx0⟩ := word0 hC
      have hb0 : (((r.length : Int) + 1) == 0) = false := by rw [beq_eq_false_iff_ne]; omega
      by_cases e1 : bytes x = [99]
      · rw [if_pos e1] at hl
        have hfin : StepTo w B0 rb v t (GrFn.line t (bytes s)) (.returned (.bool true)) W := by
          rw [hl]
          exact step_from hB hB0 (step_here hRd rfl)
        have hx1 : (x.toList == [99]) = true := by rw [toList_eq, e1]; rfl
        have HF := Lib.hid hfin
        clear hfin hwb hws hl e1
        gi_wp2
        refine ⟨by simp, .inl ⟨_, _, rfl, run_takeDeferred hK, ?_⟩⟩
        refine ⟨_, results_tmp rfl _ _ _, ?_⟩
        exact step_put HF.out _ hK rfl (by omega) (by omega)
      · rw [if_neg e1] at hl
        have hx1 : (x.toList == [99]) = false := by rw [toList_eq]; simpa using e1
        by_cases e2 : bytes x = [112]
        · rw [if_pos e2] at hl
          have hx2 : (x.toList == [112]) = true := by rw [toList_eq, e2]; rfl
          have hcon : ∀ A1, Kd.C Kd.string W A1 r.length r → Calls Tryd.prog 35 #[.pointer (some ⟨rb, 0, none⟩), .slice A1 r.length (c - 1)] W fun e w' => StepTo W B0 rb v t (GrFn.line t (bytes s)) e w' ∧ w'.heap[D]? = some (.deferred (some [])) := by
            intro A1 hA1
            rw [hl]
            refine (size_any t A1 (c - 1) r B0 rb v W hRd hA1 (by simp at hcap; omega)).mono ?_
            intro e w' hst
            exact ⟨hst, keeps_deferred hRd hst hK⟩
          have hbw := hB
          rcases cut_str hcap hC with ⟨rfl, hw1⟩ | ⟨hc1, hw1⟩
          · have HC := Lib.hid (hcon _ hw1)
            clear hcon hwb hws hl e1 e2 hC hw1
            gi_wp2_with (refine ⟨trivial, ?_⟩; gi_at_call 35; refine (callsIn_wide.2 HC.out).mono ?_; rintro e W' ⟨⟨rfl, v', hR', hb', hk'⟩, hK'⟩)
            refine ⟨by simp, .inl ⟨_, _, rfl, run_takeDeferred hK', ?_⟩⟩
            refine ⟨_, results_tmp rfl _ _ _, ?_⟩
            exact step_put (step_from hbw hB0 ⟨rfl, v', hR', hb', hk'⟩) _ hK' rfl (by omega) (by omega)
          · have HC := Lib.hid (hcon _ hw1)
            clear hcon hwb hws hl e1 e2 hC hw1
            gi_wp2_with (refine ⟨trivial, ?_⟩; gi_at_call 35; refine (callsIn_wide.2 HC.out).mono ?_; rintro e W' ⟨⟨rfl, v', hR', hb', hk'⟩, hK'⟩)
            refine ⟨by simp, .inl ⟨_, _, rfl, run_takeDeferred hK', ?_⟩⟩
            refine ⟨_, results_tmp rfl _ _ _, ?_⟩
            exact step_put (step_from hbw hB0 ⟨rfl, v', hR', hb', hk'⟩) _ hK' rfl (by omega) (by omega)
        · rw [if_neg e2] at hl
          have hx2 : (x.toList == [112]) = false := by rw [toList_eq]; simpa using e2
          by_cases e3 : bytes x = [97]
          · rw [if_pos e3] at hl
            have hx3 : (x.toList == [97]) = true := by rw [toList_eq, e3]; rfl
            have hcon : ∀ A1, Kd.C Kd.string W A1 r.length r → Calls Tryd.prog 36 #[.pointer (some ⟨rb, 0, none⟩), .slice A1 r.length (c - 1)] W fun e w' => StepTo W B0 rb v t (GrFn.line t (bytes s)) e w' ∧ w'.heap[D]? = some (.deferred (some [])) := by
              intro A1 hA1
              rw [hl]
              refine (arc_any t A1 (c - 1) r B0 rb v W hRd hsz0 hA1 (by simp at hcap; omega)).mono ?_
              intro e w' hst
              exact ⟨hst, keeps_deferred hRd hst hK⟩
            have hbw := hB
            rcases cut_str hcap hC with ⟨rfl, hw1⟩ | ⟨hc1, hw1⟩
            · have HC := Lib.hid (hcon _ hw1)
              clear hcon hwb hws hl e1 e2 e3 hC hw1
              gi_wp2_with (refine ⟨trivial, ?_⟩; gi_at_call 36; refine (callsIn_wide.2 HC.out).mono ?_; rintro e W' ⟨⟨rfl, v', hR', hb', hk'⟩, hK'⟩)
              refine ⟨by simp, .inl ⟨_, _, rfl, run_takeDeferred hK', ?_⟩⟩
              refine ⟨_, results_tmp rfl _ _ _, ?_⟩
              exact step_put (step_from hbw hB0 ⟨rfl, v', hR', hb', hk'⟩) _ hK' rfl (by omega) (by omega)
            · have HC := Lib.hid (hcon _ hw1)
              clear hcon hwb hws hl e1 e2 e3 hC hw1
              gi_wp2_with (refine ⟨trivial, ?_⟩; gi_at_call 36; refine (callsIn_wide.2 HC.out).mono ?_; rintro e W' ⟨⟨rfl, v', hR', hb', hk'⟩, hK'⟩)
              refine ⟨by simp, .inl ⟨_, _, rfl, run_takeDeferred hK', ?_⟩⟩
              refine ⟨_, results_tmp rfl _ _ _, ?_⟩
              exact step_put (step_from hbw hB0 ⟨rfl, v', hR', hb', hk'⟩) _ hK' rfl (by omega) (by omega)
          · rw [if_neg e3] at hl
            have hx3 : (x.toList == [97]) = false := by rw [toList_eq]; simpa using e3
            have hfin : StepTo w B0 rb v t (GrFn.line t (bytes s)) (.returned (.bool false)) W := by
              rw [hl]
              exact step_from hB hB0 (step_here hRd rfl)
            have HF := Lib.hid hfin
            clear hfin hwb hws hl e1 e2 e3
            gi_wp2
            refine ⟨by simp, .inl ⟨_, _, rfl, run_takeDeferred hK, ?_⟩⟩
            refine ⟨_, results_tmp rfl _ _ _, ?_⟩
            exact step_put HF.out _ hK rfl (by omega) (by omega)
  case stop =>
    rintro D c pre W _ _ h _
    exact h.elim
end Go.Proofs.YtegikndkokemjaaDoor.PAll
