import Derived.Test.YtfppfdejjifhdaaQNgA
namespace Go.Proofs.Ytfppfdejjifhdaa.PAll
open Go.RowKit Go.Proofs.YtfppfdejjifhdaaW.PrintWords Go.Proofs.YtfppfdejjifhdaaW.PrintLast Go.Proofs.YtfppfdejjifhdaaW.PrintMore
open Hp hiding Good
open Range (SeqCell wpIn_rangeFunc_cell)
set_option linter.unusedVariables false
set_option linter.unusedSimpArgs false
attribute [local go_sem] Oper.semAt_some

/-- a walk that does not panic -/
def noPan (Q : Exit → Act → World → Prop) : Exit → Act → World → Prop
  | .panic _, _, _ => False
  | e, a, w => Q e a w
theorem noPan_imp {Q : Exit → Act → World → Prop} : ∀ (e : Exit) (a : Act) (w : World), noPan Q e a w → Q e a w
  | .panic _, _, _, h => h.elim
  | .normal, _, _, h => h
  | .ret, _, _, h => h
  | .exit _, _, _, h => h
  | .goto _, _, _, h => h
  | .outgrown, _, _, h => h
set_option maxRecDepth 100000 in
set_option maxHeartbeats 16000000 in
/-- graph.New -/
theorem gnew_walk (w : World) (n : Nat) (A : List S42) (Aa : Option Addr) (ca : Nat) (hC : Kd.C k42 w Aa A.length A) (hca : A.length ≤ ca) (hok : MapOk n A) :
    Calls Try.prog 8 #[.agg #[.int .i64 n, .slice Aa A.length ca]] w (GNew w n A) := by
  have h12 := hok.n1
  have hal : A.length ≤ 40 := hok.few
  have HOK := Lib.hid hok
  have g0 : Below w.heap.size w (w.alloc (.cells #[.int .i64 n, .slice Aa A.length ca] 27)) := (Below.refl _ w).alloc (Nat.le_refl _) _
  have HG0 := Lib.hid g0
  have HM0 := Lib.hid (blk_new w (.cells #[.int .i64 n, .slice Aa A.length ca] 27))
  have HCH := Lib.hid (gcheck_walk (w.alloc (.cells #[.int .i64 n, .slice Aa A.length ca] 27)) n A Aa ca (Kd.C_below hC g0) hca hok)
  have HC := Lib.hid hC
  clear hC hok g0
  refine (callsIn_wide (n := 6)).1 ?_
  refine callsIn_of_wp_marks Try.func8 rfl trivial ?_ rfl
  simp only [Try.ntmps8, List.size_toArray, List.length_cons, List.length_nil, Nat.reduceAdd, Nat.reduceSub, Array.replicate_succ, Array.replicate_zero, List.push_toArray, List.append_toArray, List.nil_append, List.cons_append]
  refine Go.wpIn_wide.2 ?_
  refine Code.wp_mono (Q := noPan (bodyPostM Fence.wide 6 Try.prog Try.f8 (GNew w n A))) noPan_imp ?_
  go_wp2_with fail
  go_step3
  go_upto_region 1 with fail
  generalize w.alloc (.cells #[.int .i64 n, .slice Aa A.length ca] 27) = W0 at *
  have m0 := (blk_cell HM0.out 0).trans rfl
  have m1 := (blk_cell HM0.out 1).trans rfl
  have ml := blk_lt HM0.out
  go_upto_region 3 with (first | (go_at_call 18; refine HCH.out.mono ?_; rintro e W1 ⟨rfl, g1⟩))
  have HG1 : Hid (Below w.heap.size w W1) := Lib.hid (HG0.out.trans (g1.mono HG0.out.size))
  have HM1 := Lib.hid ((g1.block _ ml).trans HM0.out)
  clear m0 m1 ml g1 HCH HM0 HG0
  have m1 := (blk_cell HM1.out 1).trans rfl
  have ml := blk_lt HM1.out
  have HROW := Lib.hid (Kd.C_below HC.out HG1.out)
  go_upto_region 4 with (first | (at_builtin; refine Kd.R_append_rows k42 (w0 := w) w.heap.size rfl (.const (.slice none 0 0)) (.tmp 16) 22 42 (.agg #[(.int .i64 0), (.int .i64 0), (.int .i64 0)]) 24 rfl Try.underlying22 info42 rfl (by decide) (by omega) (.slice none 0 0) ([] : List (S42)) A Aa A.length ca (fun _ => True) (fun _ => False) rfl rfl (Kd.R_nil _ _ _ _ _) HROW.out (fun x cs hx => by obtain rfl := k42_open hx; exact k42_mkM _ _ _ _) (fun _ h => h.elim) (fun _ _ => trivial) HG1.out HG1.out.size (by simp; omega) ?_; intro v1 w2 hR2 hB2 hg2 _; rw [List.nil_append] at hR2; obtain ⟨Ac, cc, hv1⟩ := Kd.R_slice hR2; subst hv1; have HR2 := Lib.hid hR2; have HB2 := Lib.hid hB2; have HM2 := Lib.hid ((hg2.block _ ml (by simp [Value.ownBlock])).trans HM1.out); have p1 := blk_cell HM2.out 1; have pl := blk_lt HM2.out; have pf : ∀ j, w2.frozen? ⟨w.heap.size, j, none⟩ = false := fun j => blk_frozen HM2.out j; clear hR2 hB2 hg2))
  have HM3 := Lib.hid (blk_put HM2.out 1 (.slice Ac A.length cc) (cs' := #[.int .i64 n, .slice Ac A.length cc]) rfl)
  have HR3 := Lib.hid (Kd.R_set HR2.out HM2.out (by decide) 1 (.slice Ac A.length cc))
  have HB3 : Hid (Below w.heap.size w (w2.setCell ⟨w.heap.size, 1, none⟩ (.slice Ac A.length cc))) := Lib.hid (HB2.out.setCell (p := ⟨w.heap.size, 1, none⟩) (Nat.le_refl _) _)
  clear p1 pl pf HM2 HR2 HB2 HROW m1 ml HM1 HG1
  generalize w2.setCell ⟨w.heap.size, 1, none⟩ (.slice Ac A.length cc) = W3 at *
  have hmk : ∀ W : World, (Instr.makeSlice 59 (.int .i64 (A.length : Int)) (.int .i64 (A.length : Int))).run Try.prog W = .ok (.slice (some ⟨W.heap.size, 0, none⟩) A.length A.length) (W.alloc (.cells (madeCells #[.bool false] A.length) 4)) := by
    intro W
    obtain ⟨i0, hi0, hz0, hz1, hz2⟩ := info_parts info4'
    have := run_makeSlice (P := Try.prog) W 59 4 i0 (.bool false) Try.underlying59 hi0 hz0 .i64 .i64 (A.length : Int) (A.length : Int) (by omega) (by omega) (by rw [hz1]; omega) (by rw [hz2]; omega) (by omega)
    rw [hz1] at this
    simpa [Value.cells] using this
  have m0 : W3.cell? ⟨w.heap.size, 0, none⟩ = some (.int .i64 n) := (blk_cell HM3.out 0).trans rfl
  have m1 : W3.cell? ⟨w.heap.size, 1, none⟩ = some (.slice Ac A.length cc) := (blk_cell HM3.out 1).trans rfl
  have q1 : Below W3.drew.heap.size W3.drew (W3.drew.alloc (.cells (madeCells #[.bool false] A.length) 4)) := (Below.refl _ _).alloc (Nat.le_refl _) _
  have q2 : Below W3.drew.heap.size W3.drew ((W3.drew.alloc (.cells (madeCells #[.bool false] A.length) 4)).alloc (.cells #[.int .i64 n, .slice Ac A.length cc, .slice none 0 0, .slice none 0 0, .slice none 0 0, .slice none 0 0, .slice (some ⟨W3.drew.heap.size, 0, none⟩) A.length A.length] 63)) := q1.alloc q1.size _
  have ml := blk_lt HM3.out
  have n0 := (blk_cell ((q1.block _ ml).trans HM3.out) 0).trans rfl
  have n1 := (blk_cell ((q1.block _ ml).trans HM3.out) 1).trans rfl
  have o0 := (blk_cell ((q2.block _ ml).trans HM3.out) 0).trans rfl
  have o1 := (blk_cell ((q2.block _ ml).trans HM3.out) 1).trans rfl
  refine start_ (n := 8) (S := fun w' => w'.cell? ⟨w.heap.size, 0, none⟩ = some (.int .i64 n) ∧ w'.cell? ⟨w.heap.size, 1, none⟩ = some (.slice Ac A.length cc)) (ds := []) #[false, false, false, false, false, false, false, false] (by kernel_rfl) rfl rfl ⟨m0, m1⟩ (fun hHeld => ?_)
  refine pure_ (i := 1) (N := some 20) (v := ?_) (a' := ?_) #[false, true, false, false, false, false, false, false] rfl rfl (by kernel_rfl) (fun _ _ _ h => h) (Or.inl ⟨by rfl, ?_⟩) ?_ ?_
  rotate_left
  · intro w'
    go_simp
    with_reducible rfl
  rotate_left
  · simp only [Act.put, List.setIfInBounds_toArray, List.set_cons_zero, List.set_cons_succ, i64_w, i32_w]
    rfl
  refine take_ (i := 0) (N := some 19) (v := ?_) (a' := ?_) #[true, true, false, false, false, false, false, false] rfl rfl (by kernel_rfl) (fun _ _ _ h => h) (Or.inl ⟨by rfl, ?_⟩) hHeld ?_ ?_
  rotate_left
  · rintro w' ⟨s0, s1⟩
    go_simp
    with_reducible rfl
  rotate_left
  · simp only [Act.put, List.setIfInBounds_toArray, List.set_cons_zero, List.set_cons_succ, i64_w, i32_w]
    rfl
  refine take_ (i := 2) (N := some 21) (v := ?_) (a' := ?_) #[true, true, true, false, false, false, false, false] rfl rfl (by kernel_rfl) (fun _ _ _ h => h) (Or.inl ⟨by rfl, ?_⟩) hHeld ?_ ?_
  rotate_left
  · rintro w' ⟨s0, s1⟩
    go_simp
    with_reducible rfl
  rotate_left
  · simp only [Act.put, List.setIfInBounds_toArray, List.set_cons_zero, List.set_cons_succ, i64_w, i32_w]
    rfl
  refine pure_ (i := 3) (N := some 22) (v := ?_) (a' := ?_) #[true, true, true, true, false, false, false, false] rfl rfl (by kernel_rfl) (fun _ _ _ h => h) (Or.inl ⟨by rfl, ?_⟩) ?_ ?_
  rotate_left
  · intro w'
    go_simp
    with_reducible rfl
  rotate_left
  · simp only [Act.put, List.setIfInBounds_toArray, List.set_cons_zero, List.set_cons_succ, i64_w, i32_w]
    rfl
  refine one_ (i := 4) (N := some 23) #[true, true, true, true, true, false, false, false] rfl rfl (by kernel_rfl) (by decide) (fun K hK => ?_)
  refine value_ (w1 := ?_) (v := ?_) (by rfl) rfl ?_ ?_
  rotate_left 2
  · go_simp
    constructor
    · rfl
    · rfl
  refine hK.out _ _ ⟨n0, n1⟩ (fun hHeld => ?_)
  clear hK K
  refine norm_ (a' := ?_) ?_ ?_
  rotate_left
  · show Act.put _ (some 23) _ = _
    simp only [Act.put, List.setIfInBounds_toArray, List.set_cons_zero, List.set_cons_succ, i64_w, i32_w]
    rfl
  refine pure_ (i := 5) (N := some 24) (v := ?_) (a' := ?_) #[true, true, true, true, true, true, false, false] rfl rfl (by kernel_rfl) (fun _ _ _ h => h) (Or.inl ⟨by rfl, ?_⟩) ?_ ?_
  rotate_left
  · intro w'
    go_simp
    with_reducible rfl
  rotate_left
  · simp only [Act.put, List.setIfInBounds_toArray, List.set_cons_zero, List.set_cons_succ, i64_w, i32_w]
    rfl
  refine one_ (i := 6) (N := some 25) #[true, true, true, true, true, true, true, false] rfl rfl (by kernel_rfl) (by decide) (fun K hK => ?_)
  refine value_ (w1 := ?_) (v := ?_) (by rfl) rfl ?_ ?_
  rotate_left 2
  · go_simp
    constructor
    · rfl
    · rfl
  refine hK.out _ _ ⟨o0, o1⟩ (fun hHeld => ?_)
  clear hK K
  refine norm_ (a' := ?_) ?_ ?_
  rotate_left
  · show Act.put _ (some 25) _ = _
    simp only [Act.put, List.setIfInBounds_toArray, List.set_cons_zero, List.set_cons_succ, i64_w, i32_w]
    rfl
  refine pure_ (i := 7) (N := some 3) (v := ?_) (a' := ?_) #[true, true, true, true, true, true, true, true] rfl rfl (by kernel_rfl) (fun _ _ _ h => h) (Or.inl ⟨by rfl, ?_⟩) ?_ ?_
  rotate_left
  · intro w'
    go_simp
    with_reducible rfl
  rotate_left
  · simp only [Act.put, List.setIfInBounds_toArray, List.set_cons_zero, List.set_cons_succ, i64_w, i32_w]
    rfl
  refine done_ (by kernel_rfl) ?_
  have HS5 : Hid (GrS w ((W3.drew.alloc (.cells (madeCells #[.bool false] A.length) 4)).alloc (.cells #[.int .i64 n, .slice Ac A.length cc, .slice none 0 0, .slice none 0 0, .slice none 0 0, .slice none 0 0, .slice (some ⟨W3.drew.heap.size, 0, none⟩) A.length A.length] 63)) n (W3.drew.heap.size + 1) W3.drew.heap.size Ac cc A (List.replicate A.length false)) := Lib.hid (by
    refine ⟨(q2.block _ ml).trans HM3.out, Kd.R_below HR3.out ((Below.refl W3.heap.size W3).drew.trans q2), ?_, ?_, (HB3.out.drew).trans (q2.mono HB3.out.size), ?_⟩
    · have := blk_new (W3.drew.alloc (.cells (madeCells #[.bool false] A.length) 4)) (.cells #[.int .i64 n, .slice Ac A.length cc, .slice none 0 0, .slice none 0 0, .slice none 0 0, .slice none 0 0, .slice (some ⟨W3.drew.heap.size, 0, none⟩) A.length A.length] 63)
      rwa [World.size_alloc] at this
    · unfold OwnB
      rw [bools_zero]
      have h1 : (W3.drew.alloc (.cells (madeCells #[.bool false] A.length) 4)).ownsRow W3.drew.heap.size 4 1 (.slice (some ⟨W3.drew.heap.size, 0, none⟩) A.length A.length) A.length (madeCells #[.bool false] A.length).toList :=
        ⟨by simp [madeCells], .inr ⟨_, _, madeCells #[.bool false] A.length, rfl, Nat.le_refl _, heap_alloc_new _ _, Nat.le_refl _, by simp only [maxLen]; omega, by simp [madeCells], by rw [Nat.mul_one]; exact List.take_of_length_le (by simp [madeCells])⟩⟩
      exact h1.alloc _
    · have := HB3.out.size
      exact ⟨by show w.heap.size ≤ W3.heap.size + 1; omega, this⟩)
  have HS6 : Hid (GrS w ((W3.alloc (.cells (madeCells #[.bool false] A.length) 4)).alloc (.cells #[.int .i64 n, .slice Ac A.length cc, .slice none 0 0, .slice none 0 0, .slice none 0 0, .slice none 0 0, .slice (some ⟨W3.heap.size, 0, none⟩) A.length A.length] 63)).drew n (W3.heap.size + 1) W3.heap.size Ac cc A (List.replicate A.length false)) := HS5
  clear HS5 hHeld n0 n1 o0 o1 q1 q2 m0 m1 ml hmk HM3 HR3 HB3
  generalize ((W3.alloc (.cells (madeCells #[.bool false] A.length) 4)).alloc (.cells #[.int .i64 n, .slice Ac A.length cc, .slice none 0 0, .slice none 0 0, .slice none 0 0, .slice none 0 0, .slice (some ⟨W3.heap.size, 0, none⟩) A.length A.length] 63)).drew = W6 at *
  have hgk : W3.heap.size + 1 ≠ W3.heap.size := by omega
  generalize W3.heap.size + 1 = gb at *
  generalize W3.heap.size = kb at *
  have HMB6 := Lib.hid HS6.out.MB
  have b1 := (blk_cell HS6.out.m 1).trans rfl
  have bl := blk_lt HS6.out.m
  go_wp2_with (go_at_call 21; refine (numsA_any _ _ _ _).mono ?_; rintro e w' ⟨rfl, hW⟩)
  obtain ⟨k0, k1, kb1, ksz⟩ := num_boxes (W6.alloc (.cells #[.slice none 0 0] 44)) 22 67 (.slice Ac A.length cc) (.func (.func 22) #[] #[])
  rw [hW] at k0 k1 kb1 ksz
  rw [World.size_alloc] at k0 k1 ksz
  have hB7 : Below W6.heap.size W6 w' := ((Below.refl _ W6).alloc (Nat.le_refl _) _).trans (kb1.mono (by simp))
  have bO : Boxed w' W6.heap.size 44 (.slice none 0 0) := (kb1.block _ (by simp)).trans (Boxed.new W6 44 (.slice none 0 0))
  have HAC := Lib.hid (Kd.R_reads' HS6.out.arcs).2.2
  obtain ⟨i0, hi, hz0, hz1, hz2⟩ := info_parts info3'
  have hnl := numL_length A.length fun i => decide (frA A i ≠ twA A i)
  clear hW kb1 b1 bl
  refine (Go.wpIn_wide (n := 6)).1 ?_
  refine wpIn_rangeFunc_cell (Cs := fun _ => False) rfl (by omega) (gf := 37) (lb := #[.pointer (some ⟨W6.heap.size + 1, 0, none⟩), .pointer (some ⟨W6.heap.size + 1 + 1, 0, none⟩)]) rfl trivial (enters_of Try.func37 (by kernel_rfl) rfl)
    (fun c hc => hc.elim) (numA_seq 5 (by omega) (W6.heap.size + 1) W6 (by omega) A A.length Ac cc (by omega) HAC.out w' hB7 k0 k1)
    (fun h k => ⟨h.1.trans k.1, k.2.1.trans h.2.1, k.2.2.trans h.2.2⟩) (fun W l o o' hl _ _ _ => ⟨below_put o' (Below.refl _ _) (by omega), World.putObj_heap_other (by omega), World.putObj_heap_other (by omega)⟩) (Below.refl _ _) (fun _ => rfl)
    (ColI W6) (fun _ _ _ => False) (fun c hc s W u h => hc.elim) (fun c hc _ _ _ _ h => h) (col_own W6 _ (by omega)) (fun _ _ _ _ _ h _ _ => h)
    ⟨⟨_, bO, World.ownsRow_nil _ _ _ _⟩, hB7, by omega⟩
    (fun x W => { tmps := #[Value.agg #[Value.int IntKind.i64 (n : Int), Value.slice Aa A.length ca], Value.pointer (some { block := w.heap.size, off := 0 }), Value.pointer none, Value.pointer (some { block := gb, off := 0 }), Value.func (Fn.func 19) #[] #[Value.pointer (some { block := w.heap.size, off := 0 })], Value.func (Fn.func 20) #[] #[Value.pointer (some { block := w.heap.size, off := 0 })], Value.pointer (some { block := W6.heap.size, off := 0 }), Value.int IntKind.i64 x, undef, undef, undef, undef, Value.agg #[Value.int IntKind.i64 (n : Int), Value.slice Aa A.length ca], Value.int IntKind.i64 0, Value.bool false, Value.pointer (some { block := w.heap.size, off := 1 }), Value.slice Aa A.length ca, Value.slice Ac A.length cc, Value.pointer (some { block := w.heap.size, off := 1 }), Value.agg #[Value.int IntKind.i64 (n : Int), Value.slice Ac A.length cc], Value.pointer (some { block := w.heap.size, off := 1 }), Value.slice Ac A.length cc, Value.int IntKind.i64 (A.length : Int), Value.slice (some { block := kb, off := 0 }) A.length A.length, Value.agg #[Value.int IntKind.i64 (n : Int), Value.slice Ac A.length cc, Value.slice none 0 0, Value.slice none 0 0, Value.slice none 0 0, Value.slice none 0 0, Value.slice (some { block := kb, off := 0 }) A.length A.length], Value.pointer (some { block := gb, off := 0 }), Value.func (Fn.func 19) #[] #[Value.pointer (some { block := w.heap.size, off := 0 })], Value.func (Fn.func 20) #[] #[Value.pointer (some { block := w.heap.size, off := 0 })], Value.pointer (some { block := w.heap.size, off := 1 }), Value.slice Ac A.length cc, Value.func (Fn.func 37) #[] #[Value.pointer (some { block := W6.heap.size + 1, off := 0 }), Value.pointer (some { block := W6.heap.size + 1 + 1, off := 0 })], Value.int IntKind.i64 x, undef, undef, undef, undef, undef, undef, undef, undef, undef, undef, undef, undef, undef, undef, undef, undef, undef, undef, undef, undef, undef, undef, undef, undef, undef, undef, undef, undef, undef, undef, undef, undef, undef, undef, undef, undef, undef, undef, undef, undef, undef, undef, undef, undef, undef, undef, undef, undef, undef, undef, undef, undef, undef, undef, undef, undef, undef, undef, undef, undef, undef, undef, undef, undef, undef, undef, undef, undef, undef, undef, undef, undef, undef, undef, undef, undef], defers := [] })
    (fun x W => W) (fun x W => grown_of_below (Below.refl _ _) none) (fun x W hs => ⟨Below.refl _ _, rfl, rfl⟩) ?assign ?body ?done ?stop
  case stop =>
    rintro D c pre W _ _ h _
    exact h.elim
  case assign =>
    intro l x W K hK
    gi_wp2
    exact hK
  case body =>
    rintro l pre x W W2 hsz hnew hsz2 ⟨⟨u, hv, hrow⟩, hB, hs⟩ hlt
    have hc := hv.cell
    clear hnew hsz2
    gi_wp2_with (gi_at_builtin; refine wpListIn_append_own _ rfl _ _ 44 rfl (W6.heap.size + 3) 3 i0 (.int .i64 0) 1 8 Try.underlying44 hi hz0 hz1 hz2 rfl (by decide) _ _ _ rfl (hrow.alloc _) ⟨W2.heap.size, 0, none⟩ 1 1 [.int .i64 x] rfl rfl (cell_one_new _ _ _) (by simp [Value.oneCell']) (by unfold maxLen; omega) (by omega) (by simp; omega) ?_; intro v' w1 hown' hgrow _; obtain ⟨g', cap', rfl⟩ := ownsRow_succ hown'; have hstep := col_step hv hrow hB hs hown' hgrow; have hv1 : Boxed w1 W6.heap.size 44 u := (hv.alloc _).kept hgrow (hv.not_row (by decide) hrow); have hc1 := hv1.cell; have hf1 := hv1.frozen)
    exact hstep
  case done =>
    rintro D ys W hD rfl ⟨⟨u, hv, hrow⟩, hB, hs⟩ hK
    have HS7 := Lib.hid (HS6.out.still hB)
    have HK := Lib.hid hK
    have HV := Lib.hid hv
    have HW6 : Hid (w.heap.size ≤ W6.heap.size) := Lib.hid HS6.out.below.size
    have hrow' : Kd.R (Kd.int .i64) 3 W (W6.heap.size + 3) (fun _ => True) u (numL A.length fun i => decide (frA A i ≠ twA A i)) := Kd.R_of_own hrow (fun _ _ => trivial)
    obtain ⟨wA, wc, hu, hwc, hWC⟩ := Kd.R_reads hrow'
    subst hu
    have HWC := Lib.hid hWC
    have HWCC := Lib.hid hwc
    have hDW : W6.heap.size ≤ D := by omega
    have bx0 := hv.cell
    have bxl := hv.lt
    have m0 := (blk_cell HS7.out.m 0).trans rfl
    have ml := blk_lt HS7.out.m
    clear hrow hrow' hv hB hs hwc hWC hK HS6 HMB6 k0 k1 ksz hB7 bO HAC
    go_wp2_with fail
    go_step3
    go_upto_region 12 with fail
    have hbk : w.heap.size ≤ W6.heap.size := HW6.out
    generalize W6.heap.size = bx at *
    have HLSI : Hid (∀ k ∈ (numL A.length fun i => decide (frA A i ≠ twA A i)), 0 ≤ k ∧ k < A.length) := Lib.hid (fun k hk => by
      obtain ⟨j, hj, _, rfl⟩ := (numL_iff _ _ _).1 hk
      omega)
    obtain ⟨LS, hLS⟩ : ∃ LS, (numL A.length fun i => decide (frA A i ≠ twA A i)) = LS := ⟨_, rfl⟩
    have HLS := Lib.hid hLS
    rw [hLS] at HLSI HWC HWCC HV hnl bx0
    obtain ⟨ln, hln⟩ : ∃ ln, LS.length = ln := ⟨_, rfl⟩
    have HLN := Lib.hid hln
    rw [hln] at HWC HWCC HV hnl bx0
    clear hLS hln
    have HEN : Hid (∀ k : Int, 0 ≤ k → k < A.length → (0 ≤ frA A k ∧ frA A k < n) ∧ (0 ≤ twA A k ∧ twA A k < n)) := Lib.hid (fun k h0 h1 => by have := ends_ok HOK.out h0 h1; exact ⟨this.1, this.2.1⟩)
    have HDR : Hid (GrS w W.drew n gb kb Ac cc A (List.replicate A.length false)) := Lib.hid (HS7.out.still (Below.refl _ _).drew)
    have HS1 := Lib.hid (sortedT_walk W.drew w.heap.size n A HDR.out.MB (by omega) LS wA wc (by rw [HLN.out]; exact HWCC.out) (by have := HLN.out; omega) (by rw [HLN.out]; exact Kd.C_below HWC.out (Below.refl _ _).drew) HLSI.out (fun k hk => (HEN.out k (HLSI.out k hk).1 (HLSI.out k hk).2).2))
    rw [HLN.out] at HS1
    have HSS : Hid (∀ (wa : World) (ga : Nat) (s1 : List Int), OwnI wa W.drew.heap.size ga ln s1 → SoI (twA A) LS ln s1 → Below W.drew.heap.size W.drew wa → Calls Try.prog 23 #[.int .i64 n, .slice (some ⟨ga, 0, none⟩) ln ln, .func (.func 19) #[] #[.pointer (some ⟨w.heap.size, 0, none⟩)]] wa fun r w' => ∃ g out, r = .returned (.slice (some ⟨g, 0, none⟩) ln ln) ∧ OwnI w' wa.heap.size g ln out ∧ SoI (frA A) s1 s1.length out ∧ Below wa.heap.size wa w') := Lib.hid (fun wa ga s1 hO hS hG => by
      have hS' : SoI (twA A) LS LS.length s1 := by rw [HLN.out]; exact hS
      have hi := hS'.iff (n := n) (fun k hk => (HEN.out k (HLSI.out k hk).1 (HLSI.out k hk).2).2)
      have e : s1.length = ln := hS'.len.trans HLN.out
      have hmx : ln ≤ maxLen := by simp only [maxLen]; omega
      have := sortedF_walk wa w.heap.size n A (HDR.out.MB.below hG) (by omega) s1 (some ⟨ga, 0, none⟩) ln (by omega) (by rw [e]; omega) (by rw [e]; exact hO.C hmx) (fun k hk => HLSI.out k ((hi k).1 hk)) (fun k hk => (HEN.out k (HLSI.out k ((hi k).1 hk)).1 (HLSI.out k ((hi k).1 hk)).2).1)
      rw [e] at this
      exact this.mono (fun r w' h => by rw [e]; exact h))
    have HMA : Hid (∀ wa, Below W.drew.heap.size W.drew wa → wa.cell? ⟨w.heap.size, 0, none⟩ = some (.int .i64 n) ∧ wa.cell? ⟨bx, 0, none⟩ = some (.slice wA ln wc)) := Lib.hid (fun wa g => ⟨(blk_cell ((g.block _ ml).trans HS7.out.m) 0).trans rfl, ((g.cell (p := ⟨bx, 0, none⟩) bxl).trans bx0)⟩)
    refine start_ (n := 11) (S := fun w' => w'.cell? ⟨w.heap.size, 0, none⟩ = some (.int .i64 n) ∧ w'.cell? ⟨bx, 0, none⟩ = some (.slice wA ln wc)) (ds := []) #[false, false, false, false, false, false, false, false, false, false, false] (by kernel_rfl) rfl rfl ⟨m0, bx0⟩ (fun hHeld => ?_)
    refine pure_ (i := 0) (N := some 36) (v := ?_) (a' := ?_) #[true, false, false, false, false, false, false, false, false, false, false] rfl rfl (by kernel_rfl) (fun _ _ _ h => h) (Or.inl ⟨by rfl, ?_⟩) ?_ ?_
    rotate_left
    · intro w'
      go_simp
      with_reducible rfl
    rotate_left
    · simp only [Act.put, List.setIfInBounds_toArray, List.set_cons_zero, List.set_cons_succ, i64_w, i32_w]
      rfl
    refine pure_ (i := 2) (N := some 38) (v := ?_) (a' := ?_) #[true, false, true, false, false, false, false, false, false, false, false] rfl rfl (by kernel_rfl) (fun _ _ _ h => h) (Or.inl ⟨by rfl, ?_⟩) ?_ ?_
    rotate_left
    · intro w'
      go_simp
      with_reducible rfl
    rotate_left
    · simp only [Act.put, List.setIfInBounds_toArray, List.set_cons_zero, List.set_cons_succ, i64_w, i32_w]
      rfl
    refine pure_ (i := 5) (N := some 41) (v := ?_) (a' := ?_) #[true, false, true, false, false, true, false, false, false, false, false] rfl rfl (by kernel_rfl) (fun _ _ _ h => h) (Or.inl ⟨by rfl, ?_⟩) ?_ ?_
    rotate_left
    · intro w'
      go_simp
      with_reducible rfl
    rotate_left
    · simp only [Act.put, List.setIfInBounds_toArray, List.set_cons_zero, List.set_cons_succ, i64_w, i32_w]
      rfl
    refine pure_ (i := 7) (N := some 43) (v := ?_) (a' := ?_) #[true, false, true, false, false, true, false, true, false, false, false] rfl rfl (by kernel_rfl) (fun _ _ _ h => h) (Or.inl ⟨by rfl, ?_⟩) ?_ ?_
    rotate_left
    · intro w'
      go_simp
      with_reducible rfl
    rotate_left
    · simp only [Act.put, List.setIfInBounds_toArray, List.set_cons_zero, List.set_cons_succ, i64_w, i32_w]
      rfl
    refine pure_ (i := 10) (N := some 46) (v := ?_) (a' := ?_) #[true, false, true, false, false, true, false, true, false, false, true] rfl rfl (by kernel_rfl) (fun _ _ _ h => h) (Or.inl ⟨by rfl, ?_⟩) ?_ ?_
    rotate_left
    · intro w'
      go_simp
      with_reducible rfl
    rotate_left
    · simp only [Act.put, List.setIfInBounds_toArray, List.set_cons_zero, List.set_cons_succ, i64_w, i32_w]
      rfl
    refine take_ (i := 1) (N := some 37) (v := ?_) (a' := ?_) #[true, true, true, false, false, true, false, true, false, false, true] rfl rfl (by kernel_rfl) (fun _ _ _ h => h) (Or.inl ⟨by rfl, ?_⟩) hHeld ?_ ?_
    rotate_left
    · rintro w' ⟨s0, s1⟩
      go_simp
      with_reducible rfl
    rotate_left
    · simp only [Act.put, List.setIfInBounds_toArray, List.set_cons_zero, List.set_cons_succ, i64_w, i32_w]
      rfl
    refine take_ (i := 3) (N := some 39) (v := ?_) (a' := ?_) #[true, true, true, true, false, true, false, true, false, false, true] rfl rfl (by kernel_rfl) (fun _ _ _ h => h) (Or.inl ⟨by rfl, ?_⟩) hHeld ?_ ?_
    rotate_left
    · rintro w' ⟨s0, s1⟩
      go_simp
      with_reducible rfl
    rotate_left
    · simp only [Act.put, List.setIfInBounds_toArray, List.set_cons_zero, List.set_cons_succ, i64_w, i32_w]
      rfl
    refine take_ (i := 4) (N := some 40) (v := ?_) (a' := ?_) #[true, true, true, true, true, true, false, true, false, false, true] rfl rfl (by kernel_rfl) (fun _ _ _ h => h) (Or.inl ⟨by rfl, ?_⟩) hHeld ?_ ?_
    rotate_left
    · rintro w' ⟨s0, s1⟩
      go_simp
      with_reducible rfl
    rotate_left
    · simp only [Act.put, List.setIfInBounds_toArray, List.set_cons_zero, List.set_cons_succ, i64_w, i32_w]
      rfl
    refine one_ (i := 6) (N := some 42) #[true, true, true, true, true, true, true, true, false, false, true] rfl rfl (by kernel_rfl) (by decide) (fun K hK => ?_)
    refine goes_ Try.func23 (by kernel_rfl) rfl #[.int .i64 n, .slice wA ln wc, .func (.func 20) #[] #[.pointer (some ⟨w.heap.size, 0, none⟩)]] (by rfl) rfl rfl (by simp only [List.map_toArray, List.map_cons, List.map_nil]; rfl) ?_
    with_reducible refine (HS1.out).mono ?_
    rintro e wa ⟨ga, s1, rfl, hO1, hS1, hGa⟩
    have HO1 := Lib.hid hO1
    have HSO1 := Lib.hid hS1
    have HGa := Lib.hid hGa
    clear hO1 hS1 hGa
    have HS2 := Lib.hid (HSS.out wa ga s1 HO1.out HSO1.out HGa.out)
    have ma := HMA.out wa HGa.out
    refine ⟨_, rfl, ?_⟩
    refine hK.out _ _ ⟨ma.1, ma.2⟩ (fun hHeld => ?_)
    clear hK K
    refine norm_ (a' := ?_) ?_ ?_
    rotate_left
    · show Act.put _ (some 42) _ = _
      simp only [Act.put, List.setIfInBounds_toArray, List.set_cons_zero, List.set_cons_succ, i64_w, i32_w]
      rfl
    refine one_ (i := 8) (N := some 44) #[true, true, true, true, true, true, true, true, true, false, true] rfl rfl (by kernel_rfl) (by decide) (fun K hK => ?_)
    refine goes_ Try.func23 (by kernel_rfl) rfl #[.int .i64 n, .slice (some ⟨ga, 0, none⟩) ln ln, .func (.func 19) #[] #[.pointer (some ⟨w.heap.size, 0, none⟩)]] (by rfl) rfl rfl (by simp only [List.map_toArray, List.map_cons, List.map_nil]; rfl) ?_
    with_reducible refine (HS2.out).mono ?_
    rintro e wb ⟨gs, s2, rfl, hO2, hS2, hGb⟩
    have HO2 := Lib.hid hO2
    have HSO2 := Lib.hid hS2
    have HGb := Lib.hid hGb
    clear hO2 hS2 hGb
    have mb2 := HMA.out wb (HGa.out.trans (HGb.out.mono HGa.out.size))
    refine ⟨_, rfl, ?_⟩
    refine hK.out _ _ ⟨mb2.1, mb2.2⟩ (fun hHeld => ?_)
    clear hK K
    refine norm_ (a' := ?_) ?_ ?_
    rotate_left
    · show Act.put _ (some 44) _ = _
      simp only [Act.put, List.setIfInBounds_toArray, List.set_cons_zero, List.set_cons_succ, i64_w, i32_w]
      rfl
    refine pure_ (i := 9) (N := some 45) (v := ?_) (a' := ?_) #[true, true, true, true, true, true, true, true, true, true, true] rfl rfl (by kernel_rfl) (fun _ _ _ h => h) (Or.inl ⟨by rfl, ?_⟩) ?_ ?_
    rotate_left
    · intro w'
      go_simp
      with_reducible rfl
    rotate_left
    · simp only [Act.put, List.setIfInBounds_toArray, List.set_cons_zero, List.set_cons_succ, i64_w, i32_w]
      rfl
    refine done_ (by kernel_rfl) ?_
    have HGW := Lib.hid (((Below.refl W.heap.size W).drew.trans HGa.out).trans (HGb.out.mono HGa.out.size))
    have HSW := Lib.hid (HS7.out.still HGW.out)
    have hs2l : s2.length = ln := HSO2.out.len.trans (HSO1.out.len.trans HLN.out)
    have HSL := Lib.hid hs2l
    have HSO1' : Hid (SoI (twA A) LS LS.length s1) := Lib.hid (by rw [HLN.out]; exact HSO1.out)
    have HIN : Hid (∀ k ∈ s2, 0 ≤ k ∧ k < A.length) := Lib.hid (fun k hk => HLSI.out k ((HSO1'.out.iff (n := n) (fun k hk => (HEN.out k (HLSI.out k hk).1 (HLSI.out k hk).2).2) k).1 ((HSO2.out.iff (n := n) (fun k hk => (HEN.out k (HLSI.out k ((HSO1'.out.iff (n := n) (fun k hk => (HEN.out k (HLSI.out k hk).1 (HLSI.out k hk).2).2) k).1 hk)).1 (HLSI.out k ((HSO1'.out.iff (n := n) (fun k hk => (HEN.out k (HLSI.out k hk).1 (HLSI.out k hk).2).2) k).1 hk)).2).1) k).1 hk)))
    have hgs := HO2.out.lt
    have hgs2 : W.heap.size ≤ gs := Nat.le_trans HGa.out.size hgs.1
    have hkbl := HS7.out.kept
    have hkb2 : kb < W.heap.size := (World.ownsRow.lt hkbl kb rfl).2
    have HKW : Hid (wb.heap[D]? = some (.deferred (some []))) := Lib.hid ((HGW.out.block _ (Array.getElem?_eq_some_iff.1 HK.out).1).trans HK.out)
    have HKP := Lib.hid (KpI.start (frA A) (twA A) s2 A.length)
    clear m0 ml bx0 bxl mb2 ma hHeld HMA HSS HS1 HS2 HDR HWC HWCC HV HLSI hs2l hgs hkbl
    go_wp2_with fail
    go_loopw [8, 46] (fun v8 v46 wr => ∃ (i : Nat) (last : Int) (K : List Bool), v46 = .int .i64 i ∧ v8 = .int .i64 last ∧ i ≤ ln ∧ Hid (GrS w wr n gb kb Ac cc A K) ∧ Hid (KpI (frA A) (twA A) s2 A.length i last K) ∧ Hid (Only wb wr (fun k => k = kb))) (fun _ v46 _ => ln - (intOf v46).toNat)
    case atStart => exact ⟨0, -1, _, rfl, rfl, by omega, HSW, HKP, Lib.hid (Only.refl _ _)⟩
    case round =>
      clear HSW HKP
      obtain ⟨i, last, K, rfl, rfl, hi, HS, HP, HO⟩ := hrel
      by_cases hlt : i < ln
      · have HKM : Hid (rd s2 (i : Int) ∈ s2) := Lib.hid (by rw [rd_getL (by have := HSL.out; omega)]; exact List.getElem_mem _)
        obtain ⟨kn, hkn⟩ := Int.eq_ofNat_of_zero_le (HIN.out _ HKM.out).1
        have hk9 : (kn : Int) < (A.length : Int) := by have := (HIN.out _ HKM.out).2; omega
        have hk9n : kn < A.length := by omega
        have hk8 : (0 : Int) ≤ (kn : Int) := Int.natCast_nonneg _
        have HKN : Hid (rd s2 (i : Int) = (kn : Int)) := Lib.hid hkn
        have hi0' : (0 : Int) ≤ (i : Int) := Int.natCast_nonneg _
        have hi1 : (i : Int) < (ln : Int) := by omega
        obtain ⟨q0, qf, ql⟩ := (HO2.out.only HO.out (by omega)).facts i hlt
        rw [hkn] at q0
        have HFK := Lib.hid (from_walk wr w.heap.size n A HS.out.MB kn hk8 hk9)
        have HTK := Lib.hid (to_walk wr w.heap.size n A HS.out.MB kn hk8 hk9)
        clear hkn
        rcases HP.out.lst with hl | ⟨hl0, hl1, hl2, hl3⟩
        · subst hl
          have HFL := HFK
          have HTL := HTK
          have HBT := HFK
          have g6 := (blk_cell HS.out.g 6).trans rfl
          have gl6 := blk_lt HS.out.g
          obtain ⟨kc6, kf6, kl6⟩ := HS.out.kept.facts kn hk9n
          go_wp2_with (first | (go_at_call 19; first | (with_reducible refine HFL.out.mono ?_; rintro e w' ⟨rfl, rfl⟩) | (with_reducible refine HFK.out.mono ?_; rintro e w' ⟨rfl, rfl⟩)) | (go_at_call 20; first | (with_reducible refine HTL.out.mono ?_; rintro e w' ⟨rfl, rfl⟩) | (with_reducible refine HTK.out.mono ?_; rintro e w' ⟨rfl, rfl⟩)) | (go_at_call 24; with_reducible refine HBT.out.mono ?_; rintro e w5 ⟨rfl, g5⟩; have HS5 := Lib.hid (HS.out.still g5); have HO5 : Hid (Only wb w5 (fun k => k = kb)) := Lib.hid (HO.out.trans ((Only.of_below g5 _).mono (fun k _ e _ => e))); have g56 := (blk_cell HS5.out.g 6).trans rfl; have g5l := blk_lt HS5.out.g; obtain ⟨kc5, kf5, kl5⟩ := HS5.out.kept.facts lt0 HLTN.out; clear g5))
          go_roundw
          case measure => simp [intOf]; omega
          case rel => exact ⟨i + 1, kn, _, by go_num, rfl, by omega, Lib.hid (HS.out.set kn true), Lib.hid (by have := HP.out.new (by have := HSL.out; omega) HIN.out; rw [HKN.out] at this; exact this), Lib.hid (HO.out.cell kb kn _ rfl)⟩
        · obtain ⟨lt0, hlt0⟩ := Int.eq_ofNat_of_zero_le hl0
          subst hlt0
          have e0 : decide ((lt0 : Int) ≥ 0) = true := by simp
          have e0' : decide ((0 : Int) ≤ (lt0 : Int)) = true := by simp
          have HLTN : Hid (lt0 < A.length) := Lib.hid (by omega)
          have HFL := Lib.hid (from_walk wr w.heap.size n A HS.out.MB lt0 hl0 hl1)
          have HTL := Lib.hid (to_walk wr w.heap.size n A HS.out.MB lt0 hl0 hl1)
          have HBT := HFK
          by_cases hf : frA A (lt0 : Int) = frA A (kn : Int)
          · by_cases ht : twA A (lt0 : Int) = twA A (kn : Int)
            · have e1 : (frA A (lt0 : Int) == frA A (kn : Int)) = true := by simpa using hf
              have e2 : (twA A (lt0 : Int) == twA A (kn : Int)) = true := by simpa using ht
              have HFE : Hid (frA A (lt0 : Int) = frA A (rd s2 (i : Int))) := Lib.hid (by rw [HKN.out]; exact hf)
              have HTE : Hid (twA A (lt0 : Int) = twA A (rd s2 (i : Int))) := Lib.hid (by rw [HKN.out]; exact ht)
              clear HBT
              have HRR := Lib.hid (Kd.R_reads' HS.out.arcs)
              have HBT := Lib.hid (graph_better.calls (n : Int) Ac cc A kn lt0 (decide (wtA A kn < wtA A lt0)) wr HRR.out.2.2 HRR.out.2.1 (by unfold graph_better.f; rw [if_pos hk8, if_pos hk9, if_pos hl0, if_pos hl1]; rfl))
              have m0 : wr.cell? ⟨w.heap.size, 0, none⟩ = some (.int .i64 n) := (blk_cell HS.out.m 0).trans rfl
              have m1 : wr.cell? ⟨w.heap.size, 1, none⟩ = some (.slice Ac A.length cc) := (blk_cell HS.out.m 1).trans rfl
              have ml := blk_lt HS.out.m
              by_cases hb : wtA A (kn : Int) < wtA A (lt0 : Int)
              · rw [decide_eq_true hb] at HBT
                have HNE : Hid ((lt0 : Int) ≠ rd s2 (i : Int)) := Lib.hid (fun e => by rw [HKN.out] at e; rw [e] at hb; omega)
                have HKV := HP.out.over (by have := HSL.out; omega) HIN.out (by omega) HNE.out HFE.out HTE.out
                rw [HKN.out] at HKV
                have HKV := Lib.hid HKV
                generalize frA A (lt0 : Int) = a1 at *
                generalize frA A (kn : Int) = a2 at *
                generalize twA A (lt0 : Int) = a3 at *
                generalize twA A (kn : Int) = a4 at *
                clear hf ht hb
                go_upto_region 18 with (first | (go_at_call 19; first | (with_reducible refine HFL.out.mono ?_; rintro e w' ⟨rfl, rfl⟩) | (with_reducible refine HFK.out.mono ?_; rintro e w' ⟨rfl, rfl⟩)) | (go_at_call 20; first | (with_reducible refine HTL.out.mono ?_; rintro e w' ⟨rfl, rfl⟩) | (with_reducible refine HTK.out.mono ?_; rintro e w' ⟨rfl, rfl⟩)) | (go_at_call 24; with_reducible refine HBT.out.mono ?_; rintro e w5 ⟨rfl, g5⟩; have HS5 := Lib.hid (HS.out.still g5); have HO5 : Hid (Only wb w5 (fun k => k = kb)) := Lib.hid (HO.out.trans ((Only.of_below g5 _).mono (fun k _ e _ => e))); have g56 := (blk_cell HS5.out.g 6).trans rfl; have g5l := blk_lt HS5.out.g; obtain ⟨kc5, kf5, kl5⟩ := HS5.out.kept.facts lt0 HLTN.out; clear g5))
                have HS8 := Lib.hid (HS5.out.set lt0 false)
                have HO8 := Lib.hid (HO5.out.cell kb lt0 (.bool false) rfl)
                clear kc5 kf5 kl5 g56 g5l
                generalize w5.setCell ⟨kb, lt0, none⟩ (.bool false) = w8 at *
                have g6 := (blk_cell HS8.out.g 6).trans rfl
                have gl6 := blk_lt HS8.out.g
                obtain ⟨kc6, kf6, kl6⟩ := HS8.out.kept.facts kn hk9n
                go_wp2_with (first | (go_at_call 19; first | (with_reducible refine HFL.out.mono ?_; rintro e w' ⟨rfl, rfl⟩) | (with_reducible refine HFK.out.mono ?_; rintro e w' ⟨rfl, rfl⟩)) | (go_at_call 20; first | (with_reducible refine HTL.out.mono ?_; rintro e w' ⟨rfl, rfl⟩) | (with_reducible refine HTK.out.mono ?_; rintro e w' ⟨rfl, rfl⟩)) | (go_at_call 24; with_reducible refine HBT.out.mono ?_; rintro e w5 ⟨rfl, g5⟩; have HS5 := Lib.hid (HS.out.still g5); have HO5 : Hid (Only wb w5 (fun k => k = kb)) := Lib.hid (HO.out.trans ((Only.of_below g5 _).mono (fun k _ e _ => e))); have g56 := (blk_cell HS5.out.g 6).trans rfl; have g5l := blk_lt HS5.out.g; obtain ⟨kc5, kf5, kl5⟩ := HS5.out.kept.facts lt0 HLTN.out; clear g5))
                go_roundw
                case measure => simp [intOf]; omega
                case rel => exact ⟨i + 1, kn, _, by go_num, rfl, by omega, Lib.hid (HS8.out.set kn true), HKV, Lib.hid (HO8.out.cell kb kn _ rfl)⟩
              · rw [decide_eq_false hb] at HBT
                have HKV := Lib.hid (HP.out.skip (by have := HSL.out; omega) (by omega) HFE.out HTE.out)
                generalize frA A (lt0 : Int) = a1 at *
                generalize frA A (kn : Int) = a2 at *
                generalize twA A (lt0 : Int) = a3 at *
                generalize twA A (kn : Int) = a4 at *
                clear hf ht hb
                go_wp2_with (first | (go_at_call 19; first | (with_reducible refine HFL.out.mono ?_; rintro e w' ⟨rfl, rfl⟩) | (with_reducible refine HFK.out.mono ?_; rintro e w' ⟨rfl, rfl⟩)) | (go_at_call 20; first | (with_reducible refine HTL.out.mono ?_; rintro e w' ⟨rfl, rfl⟩) | (with_reducible refine HTK.out.mono ?_; rintro e w' ⟨rfl, rfl⟩)) | (go_at_call 24; with_reducible refine HBT.out.mono ?_; rintro e w5 ⟨rfl, g5⟩; have HS5 := Lib.hid (HS.out.still g5); have HO5 : Hid (Only wb w5 (fun k => k = kb)) := Lib.hid (HO.out.trans ((Only.of_below g5 _).mono (fun k _ e _ => e))); have g56 := (blk_cell HS5.out.g 6).trans rfl; have g5l := blk_lt HS5.out.g; obtain ⟨kc5, kf5, kl5⟩ := HS5.out.kept.facts lt0 HLTN.out; clear g5))
                go_roundw
                case measure => simp [intOf]; omega
                case rel => exact ⟨i + 1, lt0, K, by go_num, rfl, by omega, HS5, HKV, HO5⟩
            · have e1 : (frA A (lt0 : Int) == frA A (kn : Int)) = true := by simpa using hf
              have e2 : (twA A (lt0 : Int) == twA A (kn : Int)) = false := by simpa using ht
              generalize frA A (lt0 : Int) = a1 at *
              generalize frA A (kn : Int) = a2 at *
              generalize twA A (lt0 : Int) = a3 at *
              generalize twA A (kn : Int) = a4 at *
              clear hf ht
              have g6 := (blk_cell HS.out.g 6).trans rfl
              have gl6 := blk_lt HS.out.g
              obtain ⟨kc6, kf6, kl6⟩ := HS.out.kept.facts kn hk9n
              go_wp2_with (first | (go_at_call 19; first | (with_reducible refine HFL.out.mono ?_; rintro e w' ⟨rfl, rfl⟩) | (with_reducible refine HFK.out.mono ?_; rintro e w' ⟨rfl, rfl⟩)) | (go_at_call 20; first | (with_reducible refine HTL.out.mono ?_; rintro e w' ⟨rfl, rfl⟩) | (with_reducible refine HTK.out.mono ?_; rintro e w' ⟨rfl, rfl⟩)) | (go_at_call 24; with_reducible refine HBT.out.mono ?_; rintro e w5 ⟨rfl, g5⟩; have HS5 := Lib.hid (HS.out.still g5); have HO5 : Hid (Only wb w5 (fun k => k = kb)) := Lib.hid (HO.out.trans ((Only.of_below g5 _).mono (fun k _ e _ => e))); have g56 := (blk_cell HS5.out.g 6).trans rfl; have g5l := blk_lt HS5.out.g; obtain ⟨kc5, kf5, kl5⟩ := HS5.out.kept.facts lt0 HLTN.out; clear g5))
              go_roundw
              case measure => simp [intOf]; omega
              case rel => exact ⟨i + 1, kn, _, by go_num, rfl, by omega, Lib.hid (HS.out.set kn true), Lib.hid (by have := HP.out.new (by have := HSL.out; omega) HIN.out; rw [HKN.out] at this; exact this), Lib.hid (HO.out.cell kb kn _ rfl)⟩
          · have e1 : (frA A (lt0 : Int) == frA A (kn : Int)) = false := by simpa using hf
            generalize frA A (lt0 : Int) = a1 at *
            generalize frA A (kn : Int) = a2 at *
            clear hf
            have g6 := (blk_cell HS.out.g 6).trans rfl
            have gl6 := blk_lt HS.out.g
            obtain ⟨kc6, kf6, kl6⟩ := HS.out.kept.facts kn hk9n
            go_wp2_with (first | (go_at_call 19; first | (with_reducible refine HFL.out.mono ?_; rintro e w' ⟨rfl, rfl⟩) | (with_reducible refine HFK.out.mono ?_; rintro e w' ⟨rfl, rfl⟩)) | (go_at_call 20; first | (with_reducible refine HTL.out.mono ?_; rintro e w' ⟨rfl, rfl⟩) | (with_reducible refine HTK.out.mono ?_; rintro e w' ⟨rfl, rfl⟩)) | (go_at_call 24; with_reducible refine HBT.out.mono ?_; rintro e w5 ⟨rfl, g5⟩; have HS5 := Lib.hid (HS.out.still g5); have HO5 : Hid (Only wb w5 (fun k => k = kb)) := Lib.hid (HO.out.trans ((Only.of_below g5 _).mono (fun k _ e _ => e))); have g56 := (blk_cell HS5.out.g 6).trans rfl; have g5l := blk_lt HS5.out.g; obtain ⟨kc5, kf5, kl5⟩ := HS5.out.kept.facts lt0 HLTN.out; clear g5))
            go_roundw
            case measure => simp [intOf]; omega
            case rel => exact ⟨i + 1, kn, _, by go_num, rfl, by omega, Lib.hid (HS.out.set kn true), Lib.hid (by have := HP.out.new (by have := HSL.out; omega) HIN.out; rw [HKN.out] at this; exact this), Lib.hid (HO.out.cell kb kn _ rfl)⟩
      · obtain rfl : i = ln := by omega
        have hmx : A.length ≤ maxLen := by simp only [maxLen]; omega
        have HKT := Lib.hid (kept_walk wr gb A.length K (some ⟨kb, 0, none⟩) A.length _ _ _ _ _ _ (by omega) HS.out.g (HS.out.kept.C hmx))
        have HPF : Hid (KpI (frA A) (twA A) s2 A.length s2.length last K) := Lib.hid (by rw [HSL.out]; exact HP.out)
        have hDkb : D ≠ kb := fun e => by
          obtain ⟨cs, hc⟩ := own_typed HS.out.kept kb rfl
          have := HO.out
          have h2 := HKW.out
          obtain ⟨cs2, hc2⟩ := own_typed HS7.out.kept kb rfl
          rw [← e, HK.out] at hc2
          cases hc2
        have HKR : Hid (wr.heap[D]? = some (.deferred (some []))) := Lib.hid ((HO.out.block _ (Array.getElem?_eq_some_iff.1 HKW.out).1 hDkb).trans HKW.out)
        clear hlt
        go_upto_region 21 with (go_at_call 25; refine HKT.out.mono ?_; rintro e w9 ⟨vl, rfl, hro, hB9⟩)
        have hnl9 := numL_length A.length fun i => rdB K i
        have HLI9 : Hid (∀ k ∈ (numL A.length fun i => rdB K i), 0 ≤ k ∧ k < A.length) := Lib.hid (fun k hk => by
          obtain ⟨j, hj, _, rfl⟩ := (numL_iff _ _ _).1 hk
          omega)
        have hro' : Kd.R (Kd.int .i64) 3 w9 wr.heap.size (fun _ => True) vl (numL A.length fun i => rdB K i) := Kd.R_of_own hro (fun _ _ => trivial)
        obtain ⟨lA, lc, hvl, hlc, hLC⟩ := Kd.R_reads hro'
        subst hvl
        obtain ⟨LL, hLL⟩ : ∃ LL, (numL A.length fun i => rdB K i) = LL := ⟨_, rfl⟩
        have HLL := Lib.hid hLL
        rw [hLL] at hnl9 HLI9 hlc hLC
        have hgoal : LL.length = LL.length := rfl
        have HLC := Lib.hid hLC
        have HLCC := Lib.hid hlc
        have HS9 := Lib.hid (HS.out.still hB9)
        have HK9 : Hid (w9.heap[D]? = some (.deferred (some []))) := Lib.hid ((hB9.block _ (Array.getElem?_eq_some_iff.1 HKR.out).1).trans HKR.out)
        clear hro hro' hlc hLC hB9 HKT HS HP HO HKR
        rw [hLL]
        obtain ⟨ll, hll⟩ : ∃ ll, LL.length = ll := ⟨_, rfl⟩
        have HLLN := Lib.hid hll
        rw [hll] at HLC HLCC hnl9 ⊢
        clear hll hLL hgoal
        have HSD := Lib.hid (HS9.out.still (Below.refl w9.heap.size w9).drew)
        have HRR := Lib.hid (Kd.R_reads' HSD.out.arcs)
        have HLO := Lib.hid (layO_walk w9.drew w.heap.size n A Ac cc HSD.out.MB HRR.out.2.2 HRR.out.2.1 HOK.out LL lA lc (by rw [HLLN.out]; exact HLCC.out) (by have := HLLN.out; omega) (by rw [HLLN.out]; exact Kd.C_below HLC.out (Below.refl _ _).drew) HLI9.out)
        have HLI : Hid (∀ wa, Below w9.drew.heap.size w9.drew wa → Calls Try.prog 26 #[.agg #[.int .i64 n, .slice Ac A.length cc], .slice lA ll lc, .func (.func 20) #[] #[.pointer (some ⟨w.heap.size, 0, none⟩)], .func (.func 19) #[] #[.pointer (some ⟨w.heap.size, 0, none⟩)]] wa (LayPost wa n (twA A) (frA A) (wtA A) LL)) := Lib.hid (fun wa g => by
          have hSa := HSD.out.still g
          have hR := Kd.R_reads' hSa.arcs
          have := layI_walk wa w.heap.size n A Ac cc hSa.MB hR.2.2 hR.2.1 HOK.out LL lA lc (by rw [HLLN.out]; exact HLCC.out) (by have := HLLN.out; omega) (by rw [HLLN.out]; exact Kd.C_below HLC.out ((Below.refl w9.heap.size w9).drew.trans g)) HLI9.out
          rwa [HLLN.out] at this)
        rw [HLLN.out] at HLO
        have HGS : Hid (∀ wa, Below w9.drew.heap.size w9.drew wa → GrS w wa n gb kb Ac cc A K) := Lib.hid (fun wa g => HSD.out.still g)
        have HMC : Hid (∀ wa, Below w9.drew.heap.size w9.drew wa → wa.cell? ⟨w.heap.size, 0, none⟩ = some (.int .i64 n) ∧ wa.cell? ⟨w.heap.size, 1, none⟩ = some (.slice Ac A.length cc)) := Lib.hid (fun wa g => ⟨(blk_cell (HGS.out wa g).m 0).trans rfl, (blk_cell (HGS.out wa g).m 1).trans rfl⟩)
        have m0 : w9.cell? ⟨w.heap.size, 0, none⟩ = some (.int .i64 n) := (blk_cell HS9.out.m 0).trans rfl
        have m1 : w9.cell? ⟨w.heap.size, 1, none⟩ = some (.slice Ac A.length cc) := (blk_cell HS9.out.m 1).trans rfl
        refine start_ (n := 18) (S := fun w' => w'.cell? ⟨w.heap.size, 0, none⟩ = some (.int .i64 n) ∧ w'.cell? ⟨w.heap.size, 1, none⟩ = some (.slice Ac A.length cc)) (ds := [14, 17]) #[false, false, false, false, false, false, false, false, false, false, false, false, false, false, false, false, false, false] (by kernel_rfl) rfl rfl ⟨m0, m1⟩ (fun hHeld => ?_)
        refine pure_ (i := 0) (N := some 91) (v := ?_) (a' := ?_) #[true, false, false, false, false, false, false, false, false, false, false, false, false, false, false, false, false, false] rfl rfl (by kernel_rfl) (fun _ _ _ h => h) (Or.inl ⟨by rfl, ?_⟩) ?_ ?_
        rotate_left
        · intro w'
          go_simp
          with_reducible rfl
        rotate_left
        · simp only [Act.put, List.setIfInBounds_toArray, List.set_cons_zero, List.set_cons_succ, i64_w, i32_w]
          rfl
        refine pure_ (i := 1) (N := some 92) (v := ?_) (a' := ?_) #[true, true, false, false, false, false, false, false, false, false, false, false, false, false, false, false, false, false] rfl rfl (by kernel_rfl) (fun _ _ _ h => h) (Or.inl ⟨by rfl, ?_⟩) ?_ ?_
        rotate_left
        · intro w'
          go_simp
          with_reducible rfl
        rotate_left
        · simp only [Act.put, List.setIfInBounds_toArray, List.set_cons_zero, List.set_cons_succ, i64_w, i32_w]
          rfl
        refine pure_ (i := 3) (N := some 94) (v := ?_) (a' := ?_) #[true, true, false, true, false, false, false, false, false, false, false, false, false, false, false, false, false, false] rfl rfl (by kernel_rfl) (fun _ _ _ h => h) (Or.inl ⟨by rfl, ?_⟩) ?_ ?_
        rotate_left
        · intro w'
          go_simp
          with_reducible rfl
        rotate_left
        · simp only [Act.put, List.setIfInBounds_toArray, List.set_cons_zero, List.set_cons_succ, i64_w, i32_w]
          rfl
        refine pure_ (i := 4) (N := some 95) (v := ?_) (a' := ?_) #[true, true, false, true, true, false, false, false, false, false, false, false, false, false, false, false, false, false] rfl rfl (by kernel_rfl) (fun _ _ _ h => h) (Or.inl ⟨by rfl, ?_⟩) ?_ ?_
        rotate_left
        · intro w'
          go_simp
          with_reducible rfl
        rotate_left
        · simp only [Act.put, List.setIfInBounds_toArray, List.set_cons_zero, List.set_cons_succ, i64_w, i32_w]
          rfl
        refine pure_ (i := 5) (N := some 96) (v := ?_) (a' := ?_) #[true, true, false, true, true, true, false, false, false, false, false, false, false, false, false, false, false, false] rfl rfl (by kernel_rfl) (fun _ _ _ h => h) (Or.inl ⟨by rfl, ?_⟩) ?_ ?_
        rotate_left
        · intro w'
          go_simp
          with_reducible rfl
        rotate_left
        · simp only [Act.put, List.setIfInBounds_toArray, List.set_cons_zero, List.set_cons_succ, i64_w, i32_w]
          rfl
        refine pure_ (i := 8) (N := some 99) (v := ?_) (a' := ?_) #[true, true, false, true, true, true, false, false, true, false, false, false, false, false, false, false, false, false] rfl rfl (by kernel_rfl) (fun _ _ _ h => h) (Or.inl ⟨by rfl, ?_⟩) ?_ ?_
        rotate_left
        · intro w'
          go_simp
          with_reducible rfl
        rotate_left
        · simp only [Act.put, List.setIfInBounds_toArray, List.set_cons_zero, List.set_cons_succ, i64_w, i32_w]
          rfl
        refine pure_ (i := 9) (N := some 100) (v := ?_) (a' := ?_) #[true, true, false, true, true, true, false, false, true, true, false, false, false, false, false, false, false, false] rfl rfl (by kernel_rfl) (fun _ _ _ h => h) (Or.inl ⟨by rfl, ?_⟩) ?_ ?_
        rotate_left
        · intro w'
          go_simp
          with_reducible rfl
        rotate_left
        · simp only [Act.put, List.setIfInBounds_toArray, List.set_cons_zero, List.set_cons_succ, i64_w, i32_w]
          rfl
        refine pure_ (i := 10) (N := some 101) (v := ?_) (a' := ?_) #[true, true, false, true, true, true, false, false, true, true, true, false, false, false, false, false, false, false] rfl rfl (by kernel_rfl) (fun _ _ _ h => h) (Or.inl ⟨by rfl, ?_⟩) ?_ ?_
        rotate_left
        · intro w'
          go_simp
          with_reducible rfl
        rotate_left
        · simp only [Act.put, List.setIfInBounds_toArray, List.set_cons_zero, List.set_cons_succ, i64_w, i32_w]
          rfl
        refine take_ (i := 2) (N := some 93) (v := ?_) (a' := ?_) #[true, true, true, true, true, true, false, false, true, true, true, false, false, false, false, false, false, false] rfl rfl (by kernel_rfl) (fun _ _ _ h => h) (Or.inl ⟨by rfl, ?_⟩) hHeld ?_ ?_
        rotate_left
        · rintro w' ⟨s0, s1⟩
          go_simp
          with_reducible rfl
        rotate_left
        · simp only [Act.put, List.setIfInBounds_toArray, List.set_cons_zero, List.set_cons_succ, i64_w, i32_w]
          rfl
        refine take_ (i := 7) (N := some 98) (v := ?_) (a' := ?_) #[true, true, true, true, true, true, false, true, true, true, true, false, false, false, false, false, false, false] rfl rfl (by kernel_rfl) (fun _ _ _ h => h) (Or.inl ⟨by rfl, ?_⟩) hHeld ?_ ?_
        rotate_left
        · rintro w' ⟨s0, s1⟩
          go_simp
          with_reducible rfl
        rotate_left
        · simp only [Act.put, List.setIfInBounds_toArray, List.set_cons_zero, List.set_cons_succ, i64_w, i32_w]
          rfl
        refine one_ (i := 6) (N := some 97) #[true, true, true, true, true, true, true, true, true, true, true, false, false, false, false, false, false, false] rfl rfl (by kernel_rfl) (by decide) (fun K hK => ?_)
        refine goes_ Try.func26 (by kernel_rfl) rfl #[.agg #[.int .i64 n, .slice Ac A.length cc], .slice lA ll lc, .func (.func 19) #[] #[.pointer (some ⟨w.heap.size, 0, none⟩)], .func (.func 20) #[] #[.pointer (some ⟨w.heap.size, 0, none⟩)]] (by rfl) rfl rfl (by simp only [List.map_toArray, List.map_cons, List.map_nil]; rfl) ?_
        with_reducible refine (HLO.out).mono ?_
        rintro e wa hpa
        obtain ⟨bg1, l1, l2, EA1, ec1, rfl, hbeg1, hle1, hE1, hs11, hs12, hGa⟩ := hpa
        have HBEG := Lib.hid hbeg1
        have HLE1 := Lib.hid hle1
        have HED := Lib.hid hE1
        have HS11 := Lib.hid hs11
        have HS12 := Lib.hid hs12
        have HGa := Lib.hid hGa
        clear hbeg1 hle1 hE1 hs11 hs12 hGa
        have HLI2 := Lib.hid (HLI.out wa HGa.out)
        have ma := HMC.out wa HGa.out
        refine ⟨_, rfl, ?_⟩
        refine hK.out _ _ ⟨ma.1, ma.2⟩ (fun hHeld => ?_)
        clear hK K
        refine norm_ (a' := ?_) ?_ ?_
        rotate_left
        · show Act.put _ (some 97) _ = _
          simp only [Act.put, List.setIfInBounds_toArray, List.set_cons_zero, List.set_cons_succ, i64_w, i32_w]
          rfl
        refine one_ (i := 11) (N := some 102) #[true, true, true, true, true, true, true, true, true, true, true, true, false, false, false, false, false, false] rfl rfl (by kernel_rfl) (by decide) (fun K hK => ?_)
        refine goes_ Try.func26 (by kernel_rfl) rfl #[.agg #[.int .i64 n, .slice Ac A.length cc], .slice lA ll lc, .func (.func 20) #[] #[.pointer (some ⟨w.heap.size, 0, none⟩)], .func (.func 19) #[] #[.pointer (some ⟨w.heap.size, 0, none⟩)]] (by rfl) rfl rfl (by simp only [List.map_toArray, List.map_cons, List.map_nil]; rfl) ?_
        with_reducible refine (HLI2.out).mono ?_
        rintro e wb hpb
        obtain ⟨bg2, _, l3, EA2, ec2, rfl, _, _, _, _, _, hGb⟩ := hpb
        have HGb := Lib.hid hGb
        clear hGb
        have HGW := Lib.hid (HGS.out wb (HGa.out.trans (HGb.out.mono HGa.out.size)))
        have f3 : ∀ j, wb.frozen? ⟨gb, j, none⟩ = false := fun j => blk_frozen HGW.out.g j
        have fl := blk_lt HGW.out.g
        have z2 : wb.cell? ⟨gb, 2, none⟩ = some (.slice none 0 0) := (blk_cell HGW.out.g 2).trans rfl
        have z3 : wb.cell? ⟨gb, 3, none⟩ = some (.slice none 0 0) := (blk_cell HGW.out.g 3).trans rfl
        have z4 : wb.cell? ⟨gb, 4, none⟩ = some (.slice none 0 0) := (blk_cell HGW.out.g 4).trans rfl
        have z5 : wb.cell? ⟨gb, 5, none⟩ = some (.slice none 0 0) := (blk_cell HGW.out.g 5).trans rfl
        refine ⟨_, rfl, ?_⟩
        refine hK.out _ _ ⟨(HMC.out wb (HGa.out.trans (HGb.out.mono HGa.out.size))).1, (HMC.out wb (HGa.out.trans (HGb.out.mono HGa.out.size))).2⟩ (fun hHeld => ?_)
        clear hK K
        refine norm_ (a' := ?_) ?_ ?_
        rotate_left
        · show Act.put _ (some 102) _ = _
          simp only [Act.put, List.setIfInBounds_toArray, List.set_cons_zero, List.set_cons_succ, i64_w, i32_w]
          rfl
        refine pure_ (i := 12) (N := some 103) (v := ?_) (a' := ?_) #[true, true, true, true, true, true, true, true, true, true, true, true, true, false, false, false, false, false] rfl rfl (by kernel_rfl) (fun _ _ _ h => h) (Or.inl ⟨by rfl, ?_⟩) ?_ ?_
        rotate_left
        · intro w'
          go_simp
          with_reducible rfl
        rotate_left
        · simp only [Act.put, List.setIfInBounds_toArray, List.set_cons_zero, List.set_cons_succ, i64_w, i32_w]
          rfl
        refine pure_ (i := 13) (N := some 104) (v := ?_) (a' := ?_) #[true, true, true, true, true, true, true, true, true, true, true, true, true, true, false, false, false, false] rfl rfl (by kernel_rfl) (fun _ _ _ h => h) (Or.inl ⟨by rfl, ?_⟩) ?_ ?_
        rotate_left
        · intro w'
          go_simp
          with_reducible rfl
        rotate_left
        · simp only [Act.put, List.setIfInBounds_toArray, List.set_cons_zero, List.set_cons_succ, i64_w, i32_w]
          rfl
        refine last_ (i := 14) (N := none) #[true, true, true, true, true, true, true, true, true, true, true, true, true, true, true, false, false, false] rfl rfl (by kernel_rfl) (by decide) (fun K hK => ?_)
        refine skip_ (w1 := ?_) (by rfl) rfl ?_ ?_
        rotate_left
        · go_simp
          rfl
        refine hK.out _ _ ?_
        clear hK K
        refine pure_ (i := 15) (N := some 105) (v := ?_) (a' := ?_) #[true, true, true, true, true, true, true, true, true, true, true, true, true, true, true, true, false, false] rfl rfl (by kernel_rfl) (fun _ _ _ h => h) (Or.inl ⟨by rfl, ?_⟩) ?_ ?_
        rotate_left
        · intro w'
          go_simp
          with_reducible rfl
        rotate_left
        · simp only [Act.put, List.setIfInBounds_toArray, List.set_cons_zero, List.set_cons_succ, i64_w, i32_w]
          rfl
        refine pure_ (i := 16) (N := some 106) (v := ?_) (a' := ?_) #[true, true, true, true, true, true, true, true, true, true, true, true, true, true, true, true, true, false] rfl rfl (by kernel_rfl) (fun _ _ _ h => h) (Or.inl ⟨by rfl, ?_⟩) ?_ ?_
        rotate_left
        · intro w'
          go_simp
          with_reducible rfl
        rotate_left
        · simp only [Act.put, List.setIfInBounds_toArray, List.set_cons_zero, List.set_cons_succ, i64_w, i32_w]
          rfl
        refine last_ (i := 17) (N := none) #[true, true, true, true, true, true, true, true, true, true, true, true, true, true, true, true, true, true] rfl rfl (by kernel_rfl) (by decide) (fun K hK => ?_)
        refine skip_ (w1 := ?_) (by rfl) rfl ?_ ?_
        rotate_left
        · go_simp
          rfl
        refine hK.out _ _ ?_
        clear hK K
        refine done_ (by kernel_rfl) ?_
        go_wp2_with fail
        change bodyPostM Fence.wide 6 Try.prog Try.f8 (GNew w n A) Exit.ret _ _
        have q2 := blk_put HGW.out.g 2 (.slice (some ⟨bg1, 0, none⟩) (n + 1) (n + 1)) (cs' := #[.int .i64 n, .slice Ac A.length cc, .slice (some ⟨bg1, 0, none⟩) (n + 1) (n + 1), .slice none 0 0, .slice none 0 0, .slice none 0 0, .slice (some ⟨kb, 0, none⟩) A.length A.length]) rfl
        have q3 := blk_put q2 3 (.slice EA1 l2.length ec1) (cs' := #[.int .i64 n, .slice Ac A.length cc, .slice (some ⟨bg1, 0, none⟩) (n + 1) (n + 1), .slice EA1 l2.length ec1, .slice none 0 0, .slice none 0 0, .slice (some ⟨kb, 0, none⟩) A.length A.length]) rfl
        have q4 := blk_put q3 4 (.slice (some ⟨bg2, 0, none⟩) (n + 1) (n + 1)) (cs' := #[.int .i64 n, .slice Ac A.length cc, .slice (some ⟨bg1, 0, none⟩) (n + 1) (n + 1), .slice EA1 l2.length ec1, .slice (some ⟨bg2, 0, none⟩) (n + 1) (n + 1), .slice none 0 0, .slice (some ⟨kb, 0, none⟩) A.length A.length]) rfl
        have q5 := blk_put q4 5 (.slice EA2 l3.length ec2) (cs' := #[.int .i64 n, .slice Ac A.length cc, .slice (some ⟨bg1, 0, none⟩) (n + 1) (n + 1), .slice EA1 l2.length ec1, .slice (some ⟨bg2, 0, none⟩) (n + 1) (n + 1), .slice EA2 l3.length ec2, .slice (some ⟨kb, 0, none⟩) A.length A.length]) rfl
        have hgab := (((Below.refl w9.heap.size w9).drew).trans HGa.out).trans (HGb.out.mono HGa.out.size)
        have hKb : wb.heap[D]? = some (.deferred (some [])) := (hgab.block _ (Array.getElem?_eq_some_iff.1 HK9.out).1).trans HK9.out
        have hgD : gb ≠ D := fun e => by
          have := HGW.out.g
          rw [e, hKb] at this
          cases this
        have e1 := Kd.R_set (Kd.R_set (Kd.R_set (Kd.R_set (Kd.R_below HED.out HGb.out) HGW.out.g (by decide) 2 (.slice (some ⟨bg1, 0, none⟩) (n + 1) (n + 1))) q2 (by decide) 3 (.slice EA1 l2.length ec1)) q3 (by decide) 4 (.slice (some ⟨bg2, 0, none⟩) (n + 1) (n + 1))) q4 (by decide) 5 (.slice EA2 l3.length ec2)
        have hog : Only wb ((((wb.setCell ⟨gb, 2, none⟩ (.slice (some ⟨bg1, 0, none⟩) (n + 1) (n + 1))).setCell ⟨gb, 3, none⟩ (.slice EA1 l2.length ec1)).setCell ⟨gb, 4, none⟩ (.slice (some ⟨bg2, 0, none⟩) (n + 1) (n + 1))).setCell ⟨gb, 5, none⟩ (.slice EA2 l3.length ec2)) (fun k => k = gb) := ((((Only.refl wb (fun k => k = gb)).cell gb 2 _ rfl).cell gb 3 _ rfl).cell gb 4 _ rfl).cell gb 5 _ rfl
        have hbg : bg1 ≠ gb := by
          obtain ⟨cs, hc⟩ := own_typed HBEG.out bg1 rfl
          have hc2 := (HGb.out.block _ (blk_lt hc)).trans hc
          exact ne_typed hc2 HGW.out.g (by decide)
        have e2 := (HBEG.out.below HGb.out).only hog hbg
        have hK10 := (hog.block D (Array.getElem?_eq_some_iff.1 hKb).1 (fun e => hgD e.symm)).trans hKb
        have hbel : Below w.heap.size w ((((wb.setCell ⟨gb, 2, none⟩ (.slice (some ⟨bg1, 0, none⟩) (n + 1) (n + 1))).setCell ⟨gb, 3, none⟩ (.slice EA1 l2.length ec1)).setCell ⟨gb, 4, none⟩ (.slice (some ⟨bg2, 0, none⟩) (n + 1) (n + 1))).setCell ⟨gb, 5, none⟩ (.slice EA2 l3.length ec2)) := HGW.out.below.trans (hog.below HGW.out.below.size (fun k hk => by subst hk; exact HGW.out.gk.1))
        generalize (((wb.setCell ⟨gb, 2, none⟩ (.slice (some ⟨bg1, 0, none⟩) (n + 1) (n + 1))).setCell ⟨gb, 3, none⟩ (.slice EA1 l2.length ec1)).setCell ⟨gb, 4, none⟩ (.slice (some ⟨bg2, 0, none⟩) (n + 1) (n + 1))).setCell ⟨gb, 5, none⟩ (.slice EA2 l3.length ec2) = W10 at *
        refine ⟨by simp, .inl ⟨_, _, rfl, run_takeDeferred hK10, ?_⟩⟩
        refine ⟨_, results_tmp rfl _ _ _, ?_⟩
        have hl2 : l2.length = ll := HS12.out.len.trans (HS11.out.len.trans HLLN.out)
        have hC1 := e2.C (by simp only [maxLen]; omega)
        have hC2 := (Kd.R_reads' e1).2.2
        refine ⟨gb, fun v => (segL (frA A) l2 v).map (edgeP (twA A) (wtA A)), rfl, ⟨⟨.slice Ac A.length cc, some ⟨bg1, 0, none⟩, n + 1, EA1, ec1, .slice (some ⟨bg2, 0, none⟩) (n + 1) (n + 1), .slice EA2 l3.length ec2, .slice (some ⟨kb, 0, none⟩) A.length A.length, rowF (n + 1) (cn3 (frA A) l2 0), l2.map (fun k => (⟨twA A k, wtA A k, k⟩ : S55)), ?_, C_cells hC1 (fun p c h => h) (cell_put hK10 _), by rw [List.length_map]; exact HLE1.out, C_cells hC2 (fun p c h => h) (cell_put hK10 _), by rw [List.length_map]; omega, fun v hv => ?_⟩⟩, ?_, below_put _ hbel (by omega)⟩
        · rw [List.length_map]
          exact (World.putObj_heap_other hgD).trans q5
        · have hc3 : ∀ j, cn3 (frA A) l2 0 j = (cntB (frA A) l2 j : Int) := fun j => by unfold cn3; simp [cntE]
          refine ⟨cntB (frA A) l2 v, cntB (frA A) l2 (v + 1), by rw [rd_rowF _ (by omega), hc3], by rw [rd_rowF _ (by omega), hc3], cntB_mono _ _ (by omega), by rw [List.length_map]; exact cntB_le _ _ _, ?_⟩
          have hsm : ∀ (a m : Nat), (((l2.map (fun k => (⟨twA A k, wtA A k, k⟩ : S55))).drop a).take m).map toE = ((l2.drop a).take m).map (edgeP (twA A) (wtA A)) := fun a m => by
            rw [← List.map_drop, ← List.map_take, List.map_map]
            rfl
          exact (hsm _ _).symm
        · have hE := HEN.out
          have h1 := HSO1'.out
          have h3 := HS11.out
          rw [← HLS.out] at h1
          rw [← HLL.out] at h3
          exact gok_of (fun k hk => (hE k (by omega) (by omega)).1) (fun k hk => (hE k (by omega) (by omega)).2) h1 HSO2.out HPF.out h3 HS12.out
end Go.Proofs.Ytfppfdejjifhdaa.PAll
