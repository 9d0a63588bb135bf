import Derived.Test.YtegikndkokemjaaDoorRd8
namespace Go.Proofs.YtegikndkokemjaaDoor.PAll
open Go.RowKit Go.Proofs.YtegikndkokemjaaDoorW.PrintWords Go.Proofs.YtegikndkokemjaaDoorW.PrintLast Go.Proofs.YtegikndkokemjaaDoorW.PrintMore
open GrFn Go.Shelf
open Range (SeqCell wpIn_rangeFunc_cell)
open Split (Short)
set_option linter.unusedVariables false
set_option linter.unusedSimpArgs false
attribute [local go_sem] Oper.semAt_some

/-- no line has come -/
def None0 (w : World) (s : ByteArray) (pre : List Short) (W : World) : Prop := pre = [] ∧ Between w s false 0 false t0 W
/-- there is none -/
def Gone0 (w : World) (s : ByteArray) (c : Code) (pre : List Short) (W : World) : Prop := c = .exit 0 ∧ Between w s false 0 false t0 W

theorem post_empty {s s' : ByteArray} {w W : World} (hE : Hid (s' = ByteArray.empty)) (hs' : Hid (bytes s' = (GrFn.strip (bytes s)).1)) (hen : Hid (false = (GrFn.strip (bytes s)).2)) (h2 : Below w.heap.size w W) :
    ParsePost (GrFn.parse (bytes s)) w (.returned (.tuple #[.agg #[.int .i64 0, .slice none 0 0], .int .i64 12, .int .i64 1])) W := by
  have : GrFn.parse (bytes s) = .inr 1 := by
    unfold GrFn.parse
    rw [if_pos]
    have h1 := hs'.out
    rw [hE.out] at h1
    exact ⟨h1.symm, hen.out.symm⟩
  rw [this]
  exact ⟨rfl, h2⟩

set_option maxRecDepth 100000 in
set_option maxHeartbeats 4000000 in
theorem parse_empty (s : ByteArray) (hs : s.size ≤ 2147483648) (s' : ByteArray) (hs' : bytes s' = (GrFn.strip (bytes s)).1) (hen : false = (GrFn.strip (bytes s)).2) (hz : s'.size ≤ 2147483648) (hE : Hid (s' = ByteArray.empty)) (w : World) :
    Calls Tryd.prog 11 #[.string s] w fun e w' => ParsePost (GrFn.parse (bytes s)) w e w' := by
  have HC : Hid (∀ w, Calls Tryd.prog 22 #[.string s, .string ⟨#[10]⟩] w fun e w' => e = .returned (.tuple #[.string s', .bool false]) ∧ w = w') := by
    have e1 : s' = ⟨(GrFn.strip (bytes s)).1.toArray⟩ := by rw [← hs']; rfl
    rw [e1, show (false : Bool) = (GrFn.strip (bytes s)).2 from hen]
    exact Lib.hid (fun w => cutsuffix_any s hs w)
  have HS := Lib.hid hs'
  have HN := Lib.hid hen
  clear hs' hen
  have hfl := frags_length 10 s'
  have hu25 := Tryd.underlying25
  have hu50 := Tryd.underlying50
  have hu54 := Tryd.underlying54
  refine (callsIn_wide (n := 8)).1 ?_
  refine callsIn_of_wp_marks Tryd.func11 rfl trivial ?_ rfl
  simp only [Tryd.ntmps11, List.size_toArray, List.length_cons, List.length_nil, Nat.reduceAdd, Nat.reduceSub, Array.replicate_succ, Array.replicate_zero, List.push_toArray, List.append_toArray, List.nil_append, List.cons_append]
  gi_wp2
  refine wpIn_wide.2 (wp_scope_straight ((wpIn_wide (n := 8)).1 ?_))
  gi_wp2_with (refine ⟨trivial, ?_⟩; gi_at_call 22; refine (callsIn_wide.2 (HC.out _)).mono ?_; rintro e w1 ⟨rfl, rfl⟩)
  refine wpIn_label ?_
  gi_wp2_with (refine ⟨trivial, ?_⟩; gi_at_call 23; refine (callsIn_wide.2 (Split.splitseq_any _ _ _)).mono ?_; rintro e w' ⟨rfl, hW⟩)
  obtain ⟨hb0, k0, k1, k2, ksz⟩ := between_init hW
  clear hW HC
  simp only [Nat.add_assoc, Nat.reduceAdd] at k1 k2 ⊢
  refine wpIn_rangeFunc_cell (cb := w.heap.size + 7) rfl (by omega) (gf := 50) (lb := #[.pointer (some ⟨w.heap.size + 8, 0, none⟩), .pointer (some ⟨w.heap.size + 7, 0, none⟩), .pointer (some ⟨w.heap.size + 9, 0, none⟩)]) rfl trivial (enters_of Tryd.func50 (by kernel_rfl) rfl)
    (by omega) (Split.split_seq_short 7 (by omega) (w.heap.size + 7) 10 s' hz w' k0 k1 k2)
    (fun h k i h1 h2 => (k i h1 h2).trans (h i h1 h2)) (fun W l o o' hl _ _ _ i h1 h2 => World.putObj_heap_other (by omega)) (Below.refl _ _) (fun _ => rfl)
    (None0 w s') (Gone0 w s') (fun pre W u ⟨g, h⟩ => ⟨g, between_set h u⟩) (fun c pre W u ⟨e, h⟩ => ⟨e, between_set h u⟩)
    (fun pre W W' row ⟨g, h⟩ hg hr => ⟨g, between_grown h (by omega) hg hr⟩) (fun c pre W W' row ⟨e, h⟩ hg hr => ⟨e, between_grown h (by omega) hg hr⟩)
    ⟨rfl, hb0⟩
    (fun x => { tmps := #[.string s, .pointer (some ⟨w.heap.size, 0, none⟩), .pointer (some ⟨w.heap.size + 1, 0, none⟩), .int .i64 0, .int .i64 0, .pointer (some ⟨w.heap.size + 3, 0, none⟩), .pointer (some ⟨w.heap.size + 4, 0, none⟩), .pointer (some ⟨w.heap.size + 5, 0, none⟩), .pointer (some ⟨w.heap.size + 6, 0, none⟩), .string x.1,
        .agg #[.int .i64 0, .slice none 0 0, .int .i64 (-1)], .pointer (some ⟨w.heap.size + 2, 0, none⟩), .tuple #[.string s', .bool false], .string s, .tuple #[.string s', .bool false], .string s', .bool false, .string s',
        .func (Fn.func 50) #[] #[.pointer (some ⟨w.heap.size + 8, 0, none⟩), .pointer (some ⟨w.heap.size + 7, 0, none⟩), .pointer (some ⟨w.heap.size + 9, 0, none⟩)], .string x.1,
        undef, undef, undef, undef, undef, undef, undef, undef, undef, undef, undef, undef, undef, undef, undef, undef, undef, undef, undef, undef, undef, undef, undef, undef, undef, undef, undef, undef, undef, undef, undef, undef, undef, undef, undef], defers := [] }) ?assign ?body ?done ?stop
  case assign =>
    intro l x W K hK
    gi_wp2
    exact hK
  case body =>
    rintro l pre x W ⟨rfl, hb⟩ hlt
    have cs := hb.sbox.cell
    have ce := hb.ended.cell
    have hE' : s'.toList.isEmpty = true := by rw [hE.out, toList_eq]; rfl
    have HB := Lib.hid hb
    clear hb
    gi_wp2
    exact ⟨KeepsOthers.refl _, rfl, HB.out⟩
  case done =>
    rintro D l W hD hK ⟨rfl, hb⟩ hDf
    rw [hE.out] at hK
    cases hK
  case stop =>
    rintro D c0 l W hD hK ⟨rfl, hb⟩ hDf
    obtain ⟨v, hr⟩ := hb.rd
    have cb := hb.bad.cell
    have ca := hb.at_.cell
    have cr := hb.rptr.cell
    obtain ⟨c0, c1, c2, f0, f1, f2⟩ := hr.cells
    have HB := Lib.hid hb
    have HR := Lib.hid hr
    obtain ⟨A, c, rfl, hcap, hC⟩ := Kd.R_reads hr.arcs
    simp only [t0, List.map_nil, List.length_nil] at c0 c1 c2
    have k0' : W.cell? ⟨w.heap.size + 1, 0, none⟩ = some (.int .i64 0) := (blk_cell hb.res 0).trans rfl
    have k1' : W.cell? ⟨w.heap.size + 1, 1, none⟩ = some (.slice none 0 0) := (blk_cell hb.res 1).trans rfl
    have g0' := blk_frozen hb.res 0
    have g1' := blk_frozen hb.res 1
    have hwD : w.heap.size ≤ D := by omega
    clear hb hr hC k0 k1 k2 ksz hb0
    gi_wp2
    refine wpIn_wide.2 ?_
    go_quiet (fail)
    gi_wp2
    refine wpIn_wide.2 ?_
    go_region
    gi_wp2
    have hfin := fun o' => last_world HB.out HR.out hDf hwD (nq + 1) o' 0 (.slice none 0 0)
    refine ⟨by simp, .inl ⟨_, _, rfl, run_takeDeferred (hfin (.deferred none)).1, ?_⟩⟩
    refine ⟨_, results_ctt rfl _ _ (w.heap.size + 1) 25 #[.int .i64 0, .slice none 0 0] (0, 0) _ rfl (hfin _).2.1 Tryd.underlying25 rfl rfl, ?_⟩
    have h2 := (hfin (.deferred none)).2.2.2
    exact post_empty hE HS HN h2

end Go.Proofs.YtegikndkokemjaaDoor.PAll
