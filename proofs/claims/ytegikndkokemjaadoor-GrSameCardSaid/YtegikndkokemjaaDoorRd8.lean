import Derived.Test.YtegikndkokemjaaDoorRd7
namespace Go.Proofs.YtegikndkokemjaaDoor.PAll
open Go.RowKit Go.Proofs.YtegikndkokemjaaDoorW.PrintWords Go.Proofs.YtegikndkokemjaaDoorW.PrintLast Go.Proofs.YtegikndkokemjaaDoorW.PrintMore
open GrFn Go.Shelf
open Range (SeqCell wpIn_rangeFunc_cell)
open Split (Short)
set_option linter.unusedVariables false
set_option linter.unusedSimpArgs false
attribute [local go_sem] Oper.semAt_some

/-- the lines that have come -/
def came (pre : List Short) : List (List UInt8) := pre.map fun x => bytes x.1

/-- between two lines -/
def Going (w : World) (s : ByteArray) (en : Bool) (pre : List Short) (W : World) : Prop := ∃ t, Between w s en pre.length false t W ∧ GrFn.lines t0 (came pre) 0 = .inl t
/-- a line that may not be -/
def Gone (w : World) (s : ByteArray) (en : Bool) (c : Code) (pre : List Short) (W : World) : Prop := c = .exit 0 ∧ ∃ t, Between w s en pre.length true t W ∧ GrFn.lines t0 (came pre) 0 = .inr pre.length

theorem lines_snoc : ∀ (l : List (List UInt8)) (x : List UInt8) (t u : St) (i : Int), GrFn.lines t l i = .inl u → GrFn.lines t (l ++ [x]) i = match GrFn.line u x with
    | none => .inr (i + l.length + 1)
    | some v => .inl v
  | [], x, t, u, i, h => by
    have : t = u := by simpa [GrFn.lines] using h
    subst this
    simp only [List.nil_append, GrFn.lines]
    cases GrFn.line t x <;> simp [GrFn.lines]
  | y :: l, x, t, u, i, h => by
    simp only [List.cons_append, GrFn.lines] at h ⊢
    cases hy : GrFn.line t y with
    | none => rw [hy] at h; cases h
    | some t1 =>
      rw [hy] at h
      simp only at h ⊢
      rw [lines_snoc l x t1 u (i + 1) h]
      cases GrFn.line u x with
      | none => simp; omega
      | some v => rfl

theorem between_bad {w : World} {s : ByteArray} {en : Bool} {k : Int} {b : Bool} {t : St} {W : World} (h : Between w s en k b t W) (b' : Bool) : Between w s en k b' t (W.setCell ⟨w.heap.size + 6, 0, none⟩ (.bool b')) := by
  obtain ⟨u0, h0⟩ := h.it0
  obtain ⟨u1, h1⟩ := h.it1
  obtain ⟨u2, h2⟩ := h.it2
  obtain ⟨v, hr⟩ := h.rd
  exact ⟨h.sbox.other (by omega) _, (Below.heap_setCell W ⟨_, 0, none⟩ _ _ (by simp)).trans h.res, ⟨v, rdr_set hr h.bad (by decide) (by omega) 0 _⟩, h.rptr.other (by omega) _, h.ended.other (by omega) _, h.at_.other (by omega) _, h.bad.set _,
    ⟨u0, h0.other (by omega) _⟩, ⟨u1, h1.other (by omega) _⟩, ⟨u2, h2.other (by omega) _⟩, h.below.setCell (p := ⟨w.heap.size + 6, 0, none⟩) (by simp) _⟩

theorem going_on {w : World} {s : ByteArray} {en : Bool} {pre : List Short} {x : Short} {t : St} {W W1 : World} {v : Value} (hb : Between w s en pre.length false t W) (hl : GrFn.lines t0 (came pre) 0 = .inl t)
    (hv : Rdr (W.setCell ⟨w.heap.size + 5, 0, none⟩ (.int .i64 (pre.length + 1))) w.heap.size (w.heap.size + 2) v t) {u : St} (hu : GrFn.line t (bytes x.1) = some u) {e : Ending}
    (hst : StepTo (W.setCell ⟨w.heap.size + 5, 0, none⟩ (.int .i64 (pre.length + 1))) w.heap.size (w.heap.size + 2) v t (some u) e W1) :
    KeepsOthers W W1 ∧ Split.Keeps (w.heap.size + 7) W W1 ∧ Going w s en (pre ++ [x]) W1 := by
  obtain ⟨h1, h2, h3⟩ := between_line hb hv hst
  refine ⟨h2, h3, u, ?_, ?_⟩
  · simpa using h1
  · have := lines_snoc (came pre) (bytes x.1) t0 t 0 hl
    rw [hu] at this
    simpa [came] using this

theorem gone_off {w : World} {s : ByteArray} {en : Bool} {pre : List Short} {x : Short} {t : St} {W W1 : World} {v : Value} (hb : Between w s en pre.length false t W) (hl : GrFn.lines t0 (came pre) 0 = .inl t)
    (hv : Rdr (W.setCell ⟨w.heap.size + 5, 0, none⟩ (.int .i64 (pre.length + 1))) w.heap.size (w.heap.size + 2) v t) (hu : GrFn.line t (bytes x.1) = none) {e : Ending}
    (hst : StepTo (W.setCell ⟨w.heap.size + 5, 0, none⟩ (.int .i64 (pre.length + 1))) w.heap.size (w.heap.size + 2) v t none e W1) :
    KeepsOthers W (W1.setCell ⟨w.heap.size + 6, 0, none⟩ (.bool true)) ∧ Gone w s en (.exit 0) (pre ++ [x]) (W1.setCell ⟨w.heap.size + 6, 0, none⟩ (.bool true)) := by
  obtain ⟨h1, h2, h3⟩ := between_line hb hv hst
  refine ⟨h2.trans (KeepsOthers.setCell _ _ _), rfl, t, ?_, ?_⟩
  · have := between_bad h1 true
    simpa using this
  · have := lines_snoc (came pre) (bytes x.1) t0 t 0 hl
    rw [hu] at this
    simpa [came] using this

theorem rdr_drewN {W : World} {B0 rb : Nat} {v : Value} {t : St} (h : Rdr W B0 rb v t) (n : Nat) : Rdr (W.drewN n) B0 rb v t :=
  ⟨blk_drewN h.blk n, Kd.R_drewN h.arcs n, h.base, h.n0, h.n1, h.m0, h.m1, h.len⟩

/-- what Parse leaves at its end -/
theorem last_world {w W : World} {s : ByteArray} {en : Bool} {k : Int} {b : Bool} {t : St} {v : Value} (h : Between w s en k b t W) (hr : Rdr W w.heap.size (w.heap.size + 2) v t) {D : Nat} {l : Option (List Deferred)} (hD : W.heap[D]? = some (.deferred l)) (hwD : w.heap.size ≤ D) (nq : Nat) (o' : Obj) (n : Int) (x : Value) :
    (((W.drewN nq).setCell ⟨w.heap.size + 1, 0, none⟩ (.int .i64 n)).setCell ⟨w.heap.size + 1, 1, none⟩ x).heap[D]? = some (.deferred l) ∧
    ((((W.drewN nq).setCell ⟨w.heap.size + 1, 0, none⟩ (.int .i64 n)).setCell ⟨w.heap.size + 1, 1, none⟩ x).putObj D o').heap[w.heap.size + 1]? = some (.cells #[.int .i64 n, x] 25 (0, 0)) ∧
    Kd.R k50 50 ((((W.drewN nq).setCell ⟨w.heap.size + 1, 0, none⟩ (.int .i64 n)).setCell ⟨w.heap.size + 1, 1, none⟩ x).putObj D o') w.heap.size (fun _ => True) v (t.arcs.map toS) ∧
    Below w.heap.size w ((((W.drewN nq).setCell ⟨w.heap.size + 1, 0, none⟩ (.int .i64 n)).setCell ⟨w.heap.size + 1, 1, none⟩ x).putObj D o') := by
  have hne : w.heap.size + 1 ≠ D := fun e => by have h1 := h.res; rw [e, hD] at h1; cases h1
  have h0 := blk_drewN h.res nq
  have h1 := blk_set h0 0 (.int .i64 n)
  have h2 := blk_set h1 1 x
  have hD1 : (((W.drewN nq).setCell ⟨w.heap.size + 1, 0, none⟩ (.int .i64 n)).setCell ⟨w.heap.size + 1, 1, none⟩ x).heap[D]? = some (.deferred l) :=
    (Below.heap_setCell _ ⟨w.heap.size + 1, 1, none⟩ x D (fun e => hne e.symm)).trans ((Below.heap_setCell _ ⟨w.heap.size + 1, 0, none⟩ _ D (fun e => hne e.symm)).trans hD)
  refine ⟨hD1, (World.putObj_heap_other (fun e => hne e)).trans (h2.trans rfl), ?_, ?_⟩
  · exact (rdr_put (rdr_set (rdr_set (rdr_drewN hr nq) h0 (by decide) (by omega) 0 _) h1 (by decide) (by omega) 1 _) o' hD1 rfl).arcs
  · exact below_put o' (((pw_below_drewN h.below nq).setCell (p := ⟨w.heap.size + 1, 0, none⟩) (by simp) _).setCell (p := ⟨w.heap.size + 1, 1, none⟩) (by simp) _) hwD

theorem came_frags {s' : ByteArray} {l : List Short} (h : l.map (·.val) = Split.frags 10 s') : came l = GrFn.cutAt 10 (bytes s') := by
  have e1 : bytes ∘ (fun l : List UInt8 => (⟨l.toArray⟩ : ByteArray)) = id := by funext l; rfl
  have e2 : came l = (l.map (·.val)).map bytes := by simp [came]
  rw [e2, h]
  unfold Split.frags
  rw [List.map_map, e1, List.map_id]
  rfl

theorem came_before {s' : ByteArray} {l : List Short} (h : l.map (·.val) <+: Split.frags 10 s') : came l <+: GrFn.cutAt 10 (bytes s') := by
  have e1 : bytes ∘ (fun l : List UInt8 => (⟨l.toArray⟩ : ByteArray)) = id := by funext l; rfl
  have e2 : came l = (l.map (·.val)).map bytes := by simp [came]
  rw [e2]
  have h2 := h.map bytes
  have e3 : (Split.frags 10 s').map bytes = GrFn.cutAt 10 (bytes s') := by
    unfold Split.frags
    rw [List.map_map, e1, List.map_id]
    rfl
  rw [e3] at h2
  exact h2

theorem lines_more : ∀ (a b : List (List UInt8)) (t : St) (i k : Int), GrFn.lines t a i = .inr k → GrFn.lines t (a ++ b) i = .inr k
  | [], b, t, i, k, h => by cases h
  | x :: a, b, t, i, k, h => by
    simp only [List.cons_append, GrFn.lines] at h ⊢
    cases hx : GrFn.line t x with
    | none => rw [hx] at h; exact h
    | some u => rw [hx] at h; exact lines_more a b u (i + 1) k h

theorem parse_at {s s' : ByteArray} {en : Bool} (hs' : bytes s' = (GrFn.strip (bytes s)).1) (hen : en = (GrFn.strip (bytes s)).2) (hE : (s'.toList.isEmpty && !en) = false) :
    GrFn.parse (bytes s) = match GrFn.lines t0 (GrFn.cutAt 10 (bytes s')) 0 with
    | .inr i => .inr i
    | .inl t => if t.many = t.arcs.length then .inl ⟨t.n, t.arcs⟩ else .inr ((GrFn.cutAt 10 (bytes s')).length + 1) := by
  unfold GrFn.parse
  rw [if_neg, hs']
  · rfl
  · rintro ⟨h1, h2⟩
    rw [← hen] at h2
    rw [h2, toList_eq, hs', h1] at hE
    simp at hE

theorem post_ok {s s' : ByteArray} {en : Bool} {l : List Short} {t : St} {w W : World} {v : Value} (hs' : Hid (bytes s' = (GrFn.strip (bytes s)).1)) (hen : Hid (en = (GrFn.strip (bytes s)).2)) (hE : (s'.toList.isEmpty && !en) = false)
    (hK : l.map (·.val) = Split.frags 10 s') (hl : GrFn.lines t0 (came l) 0 = .inl t) (hq : t.many = (t.arcs.length : Int)) (h1 : Kd.R k50 50 W w.heap.size (fun _ => True) v (t.arcs.map toS)) (h2 : Below w.heap.size w W) :
    ParsePost (GrFn.parse (bytes s)) w (.returned (.tuple #[.agg #[.int .i64 t.n, v], .int .i64 0, .int .i64 0])) W := by
  rw [parse_at hs'.out hen.out hE, ← came_frags hK, hl]
  simp only [hq, if_true]
  exact ⟨v, rfl, h1, h2⟩

theorem post_few {s s' : ByteArray} {en : Bool} {l : List Short} {t : St} {w W : World} (hs' : Hid (bytes s' = (GrFn.strip (bytes s)).1)) (hen : Hid (en = (GrFn.strip (bytes s)).2)) (hE : (s'.toList.isEmpty && !en) = false)
    (hK : l.map (·.val) = Split.frags 10 s') (hl : GrFn.lines t0 (came l) 0 = .inl t) (hq : ¬ t.many = (t.arcs.length : Int)) (h2 : Below w.heap.size w W) :
    ParsePost (GrFn.parse (bytes s)) w (.returned (.tuple #[.agg #[.int .i64 0, .slice none 0 0], .int .i64 12, .int .i64 (l.length + 1)])) W := by
  rw [parse_at hs'.out hen.out hE, ← came_frags hK, hl]
  simp only [hq, if_false]
  refine ⟨?_, h2⟩
  simp [came]

theorem post_gone {s s' : ByteArray} {en : Bool} {l : List Short} {w W : World} {k : Int} (hs' : Hid (bytes s' = (GrFn.strip (bytes s)).1)) (hen : Hid (en = (GrFn.strip (bytes s)).2)) (hE : (s'.toList.isEmpty && !en) = false)
    (hK : l.map (·.val) <+: Split.frags 10 s') (hl : GrFn.lines t0 (came l) 0 = .inr k) (h2 : Below w.heap.size w W) :
    ParsePost (GrFn.parse (bytes s)) w (.returned (.tuple #[.agg #[.int .i64 0, .slice none 0 0], .int .i64 12, .int .i64 k])) W := by
  obtain ⟨r, hr⟩ := came_before hK
  rw [parse_at hs'.out hen.out hE, ← hr, lines_more _ r _ _ _ hl]
  exact ⟨rfl, h2⟩

set_option maxRecDepth 100000 in
set_option maxHeartbeats 4000000 in
theorem parse_main (s : ByteArray) (hs : s.size ≤ 2147483648) (s' : ByteArray) (en : Bool) (hs' : bytes s' = (GrFn.strip (bytes s)).1) (hen : en = (GrFn.strip (bytes s)).2) (hz : s'.size ≤ 2147483648) (hE : ((s'.toList.isEmpty && !en) = false)) (w : World) :
    Calls Tryd.prog 11 #[.string s] w fun e w' => ParsePost (GrFn.parse (bytes s)) w e w' := by
  have HC : Hid (∀ w, Calls Tryd.prog 22 #[.string s, .string ⟨#[10]⟩] w fun e w' => e = .returned (.tuple #[.string s', .bool en]) ∧ w = w') := by
    have e1 : s' = ⟨(GrFn.strip (bytes s)).1.toArray⟩ := by rw [← hs']; rfl
    rw [e1, hen]
    exact Lib.hid (fun w => cutsuffix_any s hs w)
  have HS := Lib.hid hs'
  have HN := Lib.hid hen
  clear hs' hen
  have hfl := frags_length 10 s'
  have hu25 := Tryd.underlying25
  have hu50 := Tryd.underlying50
  have hu54 := Tryd.underlying54
  refine (callsIn_wide (n := 8)).1 ?_
  refine callsIn_of_wp_marks Tryd.func11 rfl trivial ?_ rfl
  simp only [Tryd.ntmps11, List.size_toArray, List.length_cons, List.length_nil, Nat.reduceAdd, Nat.reduceSub, Array.replicate_succ, Array.replicate_zero, List.push_toArray, List.append_toArray, List.nil_append, List.cons_append]
  gi_wp2
  refine wpIn_wide.2 (wp_scope_straight ((wpIn_wide (n := 8)).1 ?_))
  gi_wp2_with (refine ⟨trivial, ?_⟩; gi_at_call 22; refine (callsIn_wide.2 (HC.out _)).mono ?_; rintro e w1 ⟨rfl, rfl⟩)
  refine wpIn_label ?_
  gi_wp2_with (refine ⟨trivial, ?_⟩; gi_at_call 23; refine (callsIn_wide.2 (Split.splitseq_any _ _ _)).mono ?_; rintro e w' ⟨rfl, hW⟩)
  obtain ⟨hb0, k0, k1, k2, ksz⟩ := between_init hW
  clear hW HC
  simp only [Nat.add_assoc, Nat.reduceAdd] at k1 k2 ⊢
  refine wpIn_rangeFunc_cell (cb := w.heap.size + 7) rfl (by omega) (gf := 50) (lb := #[.pointer (some ⟨w.heap.size + 8, 0, none⟩), .pointer (some ⟨w.heap.size + 7, 0, none⟩), .pointer (some ⟨w.heap.size + 9, 0, none⟩)]) rfl trivial (enters_of Tryd.func50 (by kernel_rfl) rfl)
    (by omega) (Split.split_seq_short 7 (by omega) (w.heap.size + 7) 10 s' hz w' k0 k1 k2)
    (fun h k i h1 h2 => (k i h1 h2).trans (h i h1 h2)) (fun W l o o' hl _ _ _ i h1 h2 => World.putObj_heap_other (by omega)) (Below.refl _ _) (fun _ => rfl)
    (Going w s' en) (Gone w s' en) (fun pre W u ⟨t, h, g⟩ => ⟨t, between_set h u, g⟩) (fun c pre W u ⟨e, t, h, g⟩ => ⟨e, t, between_set h u, g⟩)
    (fun pre W W' row ⟨t, h, g⟩ hg hr => ⟨t, between_grown h (by omega) hg hr, g⟩) (fun c pre W W' row ⟨e, t, h, g⟩ hg hr => ⟨e, t, between_grown h (by omega) hg hr, g⟩)
    ⟨t0, hb0, rfl⟩
    (fun x => { tmps := #[.string s, .pointer (some ⟨w.heap.size, 0, none⟩), .pointer (some ⟨w.heap.size + 1, 0, none⟩), .int .i64 0, .int .i64 0, .pointer (some ⟨w.heap.size + 3, 0, none⟩), .pointer (some ⟨w.heap.size + 4, 0, none⟩), .pointer (some ⟨w.heap.size + 5, 0, none⟩), .pointer (some ⟨w.heap.size + 6, 0, none⟩), .string x.1,
        .agg #[.int .i64 0, .slice none 0 0, .int .i64 (-1)], .pointer (some ⟨w.heap.size + 2, 0, none⟩), .tuple #[.string s', .bool en], .string s, .tuple #[.string s', .bool en], .string s', .bool en, .string s',
        .func (Fn.func 50) #[] #[.pointer (some ⟨w.heap.size + 8, 0, none⟩), .pointer (some ⟨w.heap.size + 7, 0, none⟩), .pointer (some ⟨w.heap.size + 9, 0, none⟩)], .string x.1,
        undef, undef, undef, undef, undef, undef, undef, undef, undef, undef, undef, undef, undef, undef, undef, undef, undef, undef, undef, undef, undef, undef, undef, undef, undef, undef, undef, undef, undef, undef, undef, undef, undef, undef, undef], defers := [] }) ?assign ?body ?done ?stop
  case assign =>
    intro l x W K hK
    gi_wp2
    exact hK
  case body =>
    rintro l pre x W ⟨t, hb, hl⟩ hlt
    obtain ⟨v, hr⟩ := hb.rd
    have cs := hb.sbox.cell
    have ce := hb.ended.cell
    have ca := hb.at_.cell
    have fa := hb.at_.frozen
    have cr := hb.rptr.cell
    have hr1 : Rdr (W.setCell ⟨w.heap.size + 5, 0, none⟩ (.int .i64 (pre.length + 1))) w.heap.size (w.heap.size + 2) v t := rdr_set hr hb.at_ (by decide) (by omega) 0 _
    have hcon := line_any t x.1 x.2 w.heap.size (w.heap.size + 2) v _ hr1 (by have := hb.below.size; simpa [World.setCell] using this)
    have HB := Lib.hid hb
    have HL := Lib.hid hl
    have HR1 := Lib.hid hr1
    have hE' : (s'.toList.isEmpty = true ∧ ∃ e', en = e' ∧ e' = true) ∨ (s'.toList.isEmpty = false) := by
      cases h1 : s'.toList.isEmpty
      · exact .inr rfl
      · rw [h1] at hE; left; exact ⟨rfl, en, rfl, by simpa using hE⟩
    have cb' : ∀ (W1 : World) (e : Ending) (q : Option St), StepTo (W.setCell ⟨w.heap.size + 5, 0, none⟩ (.int .i64 (pre.length + 1))) w.heap.size (w.heap.size + 2) v t q e W1 → W1.cell? ⟨w.heap.size + 6, 0, none⟩ = some (.bool false) ∧ W1.frozen? ⟨w.heap.size + 6, 0, none⟩ = false := fun W1 e q hst =>
      ⟨(between_line hb hr1 hst).1.bad.cell, (between_line hb hr1 hst).1.bad.frozen⟩
    cases hq : GrFn.line t (bytes x.1) with
    | none =>
      rw [hq] at hcon
      have HQ := Lib.hid hq
      have HCn := Lib.hid hcon
      have HCB := Lib.hid cb'
      clear hb hl hr1 hr hcon hq hE cb'
      rcases hE' with ⟨hE', e', rfl, rfl⟩ | hE'
      all_goals
        gi_wp2_with (refine ⟨trivial, ?_⟩; gi_at_call 24; refine (CallsIn.inRound l (callsIn_wide.2 HCn.out)).mono ?_; rintro e W1 hst; have hcb := HCB.out _ _ _ hst; obtain ⟨c6, f6⟩ := hcb; have HST := Lib.hid hst; obtain rfl := hst.1; clear hst)
        exact gone_off HB.out HL.out HR1.out HQ.out HST.out
    | some u =>
      rw [hq] at hcon
      have HQ := Lib.hid hq
      have HCn := Lib.hid hcon
      clear hb hl hr1 hr hcon hq hE cb'
      rcases hE' with ⟨hE', e', rfl, rfl⟩ | hE'
      all_goals
        gi_wp2_with (refine ⟨trivial, ?_⟩; gi_at_call 24; refine (CallsIn.inRound l (callsIn_wide.2 HCn.out)).mono ?_; rintro e W1 hst; have HST := Lib.hid hst; obtain rfl := hst.1; clear hst)
        exact going_on HB.out HL.out HR1.out HQ.out HST.out
  case done =>
    rintro D l W hD hK ⟨t, hb, hl⟩ hDf
    obtain ⟨v, hr⟩ := hb.rd
    have cb := hb.bad.cell
    have ca := hb.at_.cell
    have cr := hb.rptr.cell
    obtain ⟨c0, c1, c2, f0, f1, f2⟩ := hr.cells
    have HB := Lib.hid hb
    have HL := Lib.hid hl
    have HR := Lib.hid hr
    have hll : l.length ≤ 2147483649 := by
      have := congrArg List.length hK
      rw [List.length_map] at this
      omega
    obtain ⟨A, c, rfl, hcap, hC⟩ := Kd.R_reads hr.arcs
    rw [List.length_map] at c1 hcap
    have hn := hr.len
    have hm0 := hr.m0
    have hm1 := hr.m1
    obtain ⟨b1, r1⟩ : ∃ k, W.heap[w.heap.size + 1]? = some k := ⟨_, hb.res⟩
    have hres := hb.res
    have k0' : W.cell? ⟨w.heap.size + 1, 0, none⟩ = some (.int .i64 0) := (blk_cell hb.res 0).trans rfl
    have k1' : W.cell? ⟨w.heap.size + 1, 1, none⟩ = some (.slice none 0 0) := (blk_cell hb.res 1).trans rfl
    have g0' := blk_frozen hb.res 0
    have g1' := blk_frozen hb.res 1
    have hwD : w.heap.size ≤ D := by omega
    clear hb hl hr hC k0 k1 k2 ksz hb0
    by_cases hq : t.many = (t.arcs.length : Int)
    · gi_wp2
      refine wpIn_wide.2 ?_
      go_quiet (fail)
      gi_wp2
      have hfin := fun o' => last_world HB.out HR.out hDf hwD nq o' t.n (.slice A t.arcs.length c)
      refine ⟨by simp, .inl ⟨_, _, rfl, run_takeDeferred (hfin (.deferred none)).1, ?_⟩⟩
      refine ⟨_, results_ctt rfl _ _ (w.heap.size + 1) 25 #[.int .i64 t.n, .slice A t.arcs.length c] (0, 0) _ rfl (hfin _).2.1 Tryd.underlying25 rfl rfl, ?_⟩
      have h1 := (hfin (.deferred none)).2.2.1
      have h2 := (hfin (.deferred none)).2.2.2
      rw [List.length_map] at h1
      exact post_ok HS HN hE hK HL.out hq h1 h2
    · gi_wp2
      refine wpIn_wide.2 ?_
      go_quiet (fail)
      gi_wp2
      refine wpIn_wide.2 ?_
      go_region
      gi_wp2
      have hfin := fun o' => last_world HB.out HR.out hDf hwD (nq + 1) o' 0 (.slice none 0 0)
      refine ⟨by simp, .inl ⟨_, _, rfl, run_takeDeferred (hfin (.deferred none)).1, ?_⟩⟩
      refine ⟨_, results_ctt rfl _ _ (w.heap.size + 1) 25 #[.int .i64 0, .slice none 0 0] (0, 0) _ rfl (hfin _).2.1 Tryd.underlying25 rfl rfl, ?_⟩
      have h2 := (hfin (.deferred none)).2.2.2
      exact post_few HS HN hE hK HL.out hq h2
  case stop =>
    rintro D c0 l W hD hK ⟨rfl, t, hb, hl⟩ hDf
    obtain ⟨v, hr⟩ := hb.rd
    have cb := hb.bad.cell
    have ca := hb.at_.cell
    have HB := Lib.hid hb
    have HL := Lib.hid hl
    have HR := Lib.hid hr
    have k0' : W.cell? ⟨w.heap.size + 1, 0, none⟩ = some (.int .i64 0) := (blk_cell hb.res 0).trans rfl
    have k1' : W.cell? ⟨w.heap.size + 1, 1, none⟩ = some (.slice none 0 0) := (blk_cell hb.res 1).trans rfl
    have g0' := blk_frozen hb.res 0
    have g1' := blk_frozen hb.res 1
    have hwD : w.heap.size ≤ D := by omega
    clear hb hl hr k0 k1 k2 ksz hb0
    gi_wp2
    refine wpIn_wide.2 ?_
    go_region
    gi_wp2
    have hfin := fun o' => last_world HB.out HR.out hDf hwD 1 o' 0 (.slice none 0 0)
    refine ⟨by simp, .inl ⟨_, _, rfl, run_takeDeferred (hfin (.deferred none)).1, ?_⟩⟩
    refine ⟨_, results_ctt rfl _ _ (w.heap.size + 1) 25 #[.int .i64 0, .slice none 0 0] (0, 0) _ rfl (hfin _).2.1 Tryd.underlying25 rfl rfl, ?_⟩
    have h2 := (hfin (.deferred none)).2.2.2
    exact post_gone HS HN hE hK HL.out h2

end Go.Proofs.YtegikndkokemjaaDoor.PAll
