import Derived.Test.YtegikndkokemjaaDoorPu10p
import Derived.Test.YtegikndkokemjaaDoorPAllx17
namespace Go.Proofs.YtegikndkokemjaaDoor.PAll
open Go.RowKit Go.Proofs.YtegikndkokemjaaDoorW.PrintWords Go.Proofs.YtegikndkokemjaaDoorW.PrintLast Go.Proofs.YtegikndkokemjaaDoorW.PrintMore
open GrFn

theorem lines_app : ∀ (l r : List (List UInt8)) (t : St) (i : Int), GrFn.lines t (l ++ r) i = match GrFn.lines t l i with
    | .inr j => .inr j
    | .inl u => GrFn.lines u r (i + l.length)
  | [], r, t, i => by simp [GrFn.lines]
  | x :: l, r, t, i => by
    rw [List.cons_append, lines_cons, lines_cons]
    cases GrFn.line t x with
    | none => rfl
    | some u =>
      simp only
      rw [lines_app l r u (i + 1)]
      have : i + 1 + (l.length : Int) = i + ((x :: l).length : Nat) := by rw [List.length_cons]; omega
      rw [this]

theorem lines_no (m : M) (r : List (List UInt8)) (hr : ∀ x ∈ r, (10 : UInt8) ∉ x) : ∀ x ∈ headWords m :: (m.arcs.map arcWords ++ r), (10 : UInt8) ∉ x := by
  intro x hx
  rcases List.mem_cons.1 hx with rfl | hx
  · exact head_no m
  · rcases List.mem_append.1 hx with hx | hx
    · obtain ⟨a, _, rfl⟩ := List.mem_map.1 hx
      exact arc_no a
    · exact hr x hx

/-- one arc's line more than the head tells -/
theorem parse_extra (m : M) (h : check m = 0) (a : Arc) (ha : 0 ≤ a.src ∧ a.src < m.n ∧ 0 ≤ a.dst ∧ a.dst < m.n ∧ 0 ≤ a.w ∧ a.w ≤ 2147483648) : GrFn.parse (text m ++ arcLine a) = .inr (m.arcs.length + 2) := by
  obtain ⟨h0, h1, h2, h3⟩ := check_ok h
  have e : text m ++ arcLine a = unlines (headWords m :: (m.arcs.map arcWords ++ [arcWords a])) := by
    rw [text_unlines]
    unfold unlines
    rw [← List.cons_append, List.flatMap_append]
    congr 1
    simp [arcLine, arcWords]
  rw [e, parse_unlines _ (lines_no m _ (by intro x hx; rw [List.mem_singleton] at hx; rw [hx]; exact arc_no a)) (by simp), lines_cons, line_head m h _ rfl]
  simp only
  rw [lines_app, reads_arcs m.arcs m.n m.arcs.length [] _ h1 h3 (by simp)]
  simp only
  have hl : GrFn.line ⟨m.n, [] ++ m.arcs, m.arcs.length⟩ (arcWords a) = none := by
    rw [line_cons (words_arc a), if_neg (by decide), if_neg (by decide), if_pos rfl]
    unfold GrFn.arc
    rw [numbers3, number_ok (a.src + 1) m.n (by omega) (by omega) (by omega), number_ok (a.dst + 1) m.n (by omega) (by omega) (by omega), number_ok a.w 2147483648 (by omega) (by omega) (by omega)]
    simp only
    rw [if_pos (Or.inr (Or.inr (by simp)))]
  rw [lines_cons, hl]
  simp only [close, List.length_map]
  congr 1
  omega

/-- one arc's line fewer than the head tells -/
theorem parse_fewer (n : Int) (qs : List Arc) (a : Arc) (h : check ⟨n, qs ++ [a]⟩ = 0) : GrFn.parse (headLine ⟨n, qs ++ [a]⟩ ++ qs.flatMap arcLine) = .inr (qs.length + 2) := by
  obtain ⟨h0, h1, h2, h3⟩ := check_ok h
  simp only at h0 h1 h3
  have e : headLine ⟨n, qs ++ [a]⟩ ++ qs.flatMap arcLine = unlines (headWords ⟨n, qs ++ [a]⟩ :: qs.map arcWords) := by
    unfold unlines headLine headWords
    rw [List.flatMap_cons, List.flatMap_map]
    rfl
  rw [e, parse_unlines _ (by
    have := lines_no ⟨n, qs⟩ [] (by simp)
    intro x hx
    rcases List.mem_cons.1 hx with rfl | hx
    · exact head_no _
    · exact this x (by rw [List.append_nil]; exact List.mem_cons_of_mem _ hx)) (by simp), lines_cons, line_head ⟨n, qs ++ [a]⟩ h _ rfl]
  simp only
  rw [reads_arcs qs n (qs ++ [a]).length [] _ h1 (fun b hb => h3 b (by simp [hb])) (by simp; omega)]
  simp only [close]
  rw [if_neg (by simp; omega)]
  congr 1
  simp only [List.length_cons, List.length_map]
  omega

/-- the answer of print, as the printed functions give it -/
def ansP' : List UInt8 ⊕ Int → ByteArray × Int
  | .inl t => (mk t, 0)
  | .inr e => (mk [], e)
theorem gr_print_is' (k : Nat) (n : Int) (l : List S50) : gr_Print.f k n l = some (ansP' (GrFn.print ⟨n, l.map ofS⟩)) := by
  unfold gr_Print.f
  cases GrFn.print ⟨n, l.map ofS⟩ <;> rfl
theorem ref_digits_mk' (k : Nat) (n : Int) (h0 : 0 ≤ n) (h1 : n < 10000000000) (hk : 20 < k) : postroadref05_Digits.f k n = some (mk (digits n.toNat)) := by
  obtain ⟨m, rfl⟩ : ∃ m : Nat, n = m := ⟨n.toNat, by omega⟩
  exact ref_digits 10 k m (by omega) (by omega) (by omega) (by omega)
theorem mk_size'' (l : List UInt8) : (mk l).size = l.length := rfl
theorem mk_extract (l : List UInt8) (a b : Nat) : (mk l).extract a b = mk ((l.take b).drop a) := by
  apply ByteArray.ext
  apply Array.toList_inj.1
  exact Split.extract_list (mk l) a b

theorem text_short' (n : Int) (l : List S50) (h : check ⟨n, l.map ofS⟩ = 0) (hl : l.length ≤ 60) : (text ⟨n, l.map ofS⟩).length ≤ 5000 := by
  obtain ⟨h0, h1, _, h3⟩ := check_ok h
  simp only at h0 h1
  rw [← text_is n l h, List.length_append]
  have a := head_short n l.length h0 h1 (by omega)
  have b := arcs_short l (fun x hx => by
    have := h3 (ofS x) (List.mem_map.2 ⟨x, hx, rfl⟩)
    exact ⟨this.2.2.2.2.1, this.2.2.2.2.2⟩)
  omega

theorem more_j1 (n : Int) (l : List S50) (u v w : Int) (h1 : check ⟨n, l.map ofS⟩ = 0) (h2 : check ⟨n, l.map ofS ++ [⟨u, v, w⟩]⟩ = 0) (hl : l.length ≤ 50) (k : Nat) (hk : 100 < k) :
    postroadlaw05_GrMore.j1 k (mk (text ⟨n, l.map ofS⟩)) (mk (text ⟨n, l.map ofS ++ [⟨u, v, w⟩]⟩)) (mk (arcLine ⟨u, v, w⟩)) false n l = some true := by
  obtain ⟨k, rfl⟩ : ∃ q, k = q + 1 := ⟨k - 1, by omega⟩
  have ha := (check_ok h2).2.2.2 ⟨u, v, w⟩ (by simp)
  have s1 := text_short' n l h1 (by omega)
  have s2 := text_short' n (l ++ [⟨u, v, w⟩]) (by rw [List.map_append]; exact h2) (by simp; omega)
  rw [List.map_append] at s2
  have e : text ⟨n, l.map ofS ++ [⟨u, v, w⟩]⟩ = (headLine ⟨n, l.map ofS ++ [⟨u, v, w⟩]⟩ ++ (l.map ofS).flatMap arcLine) ++ arcLine ⟨u, v, w⟩ := by
    unfold text
    simp
  have p1 := parse_extra _ h1 ⟨u, v, w⟩ ha
  have p2 := parse_fewer n (l.map ofS) ⟨u, v, w⟩ h2
  rw [List.length_map] at p2
  simp only [List.length_map] at p1
  have s3 : (text ⟨n, l.map ofS ++ [⟨u, v, w⟩]⟩).length ≤ 5000 := s2
  rw [e] at s3 ⊢
  generalize headLine ⟨n, l.map ofS ++ [⟨u, v, w⟩]⟩ ++ (l.map ofS).flatMap arcLine = T at *
  generalize text ⟨n, l.map ofS⟩ = S at *
  generalize arcLine ⟨u, v, w⟩ = A at *
  rw [List.length_append] at s3
  have ew : wrap64 (((mk (T ++ A)).size : Int) - ((mk A).size : Int)) = (T.length : Int) := by
    rw [mk_size'', mk_size'', List.length_append, wrap_is (by omega)]; omega
  have el : wrap64 ((l.length : Int) + 2) = (l.length : Int) + 2 := wrap_is (by omega)
  rw [postroadlaw05_GrMore.j1, if_neg (by decide), ew, el, if_pos (by omega), if_pos (by rw [mk_size'', List.length_append]; omega)]
  rw [show ((T.length : Int)).toNat = T.length from rfl, mk_extract, List.drop_zero, List.take_left']
  rw [gr_parse_is _ (mk T) (by rw [mk_size'']; omega), mk_append, gr_parse_is _ (mk (S ++ A)) (by rw [mk_size'', List.length_append]; omega), bytes_of_mk, bytes_of_mk, p1, p2]
  simp only [Option.bind_some, ansR]
  rw [if_pos (by rw [mk_size'', mk_size'']; omega), if_pos trivial, if_pos trivial, known_is k (by omega)]
  all_goals rfl

theorem pure_more (n : Int) (l : List S50) (u v w : Int) : postroadlaw05_GrMore.f 400 n l u v w = some true := by
  have known : ∀ s, postroadlaw05_GrMore.j0 400 u v w s true n l = some true := fun s => by
    rw [postroadlaw05_GrMore.j0, if_pos rfl, known_is _ (by omega)]; rfl
  unfold postroadlaw05_GrMore.f
  rw [gr_print_is']
  unfold GrFn.print
  by_cases hq : check ⟨n, l.map ofS⟩ = 0
  · rw [if_pos hq]
    show (if (0 : Int) = 0 then (if (l.length : Int) > 50 then (postroadlaw05_GrMore.j0 400 u v w (mk (text ⟨n, l.map ofS⟩)) true n l) else (postroadlaw05_GrMore.j0 400 u v w (mk (text ⟨n, l.map ofS⟩)) (n == 0) n l)) else (postroadlaw05_GrMore.j0 400 u v w (mk (text ⟨n, l.map ofS⟩)) true n l)) = some true
    rw [if_pos rfl]
    by_cases h50 : (l.length : Int) > 50
    · rw [if_pos h50]; exact known _
    · rw [if_neg h50]
      by_cases hn : n = 0
      · rw [show (n == 0) = true by simpa using hn]; exact known _
      · rw [show (n == 0) = false by simpa using hn, postroadlaw05_GrMore.j0, if_neg (by decide), if_pos (by simp only [List.length_nil]; omega)]
        simp only [Option.bind_some, List.nil_append]
        rw [if_pos (by omega)]
        have em : (l ++ [(⟨u, v, w⟩ : S50)]).map ofS = l.map ofS ++ [⟨u, v, w⟩] := by rw [List.map_append]; rfl
        rw [gr_print_is', gr_check_all n _ 399 (by rw [List.length_append, List.length_singleton]; omega), em]
        unfold GrFn.print
        by_cases h2 : check ⟨n, l.map ofS ++ [⟨u, v, w⟩]⟩ = 0
        · rw [if_pos h2, h2]
          simp only [Option.bind_some, ansP']
          rw [if_neg (by decide), if_pos trivial]
          have ha := (check_ok h2).2.2.2 ⟨u, v, w⟩ (by simp)
          have hb := (check_ok h2).2.1
          simp only at ha hb
          have l1 := digits_len 9 (u + 1).toNat (by omega)
          have l2 := digits_len 9 (v + 1).toNat (by omega)
          have l3 := digits_len 9 w.toNat (by omega)
          rw [wrap_is (n := u + 1) (by omega), wrap_is (n := v + 1) (by omega), ref_digits_mk' 399 (u + 1) (by omega) (by omega) (by omega), ref_digits_mk' 399 (v + 1) (by omega) (by omega) (by omega), ref_digits_mk' 399 w (by omega) (by omega) (by omega)]
          rw [show (⟨#[97, 32]⟩ : ByteArray) = mk [97, 32] from rfl, show (⟨#[32]⟩ : ByteArray) = mk [32] from rfl, show (⟨#[10]⟩ : ByteArray) = mk [10] from rfl]
          simp only [mk_append, Option.bind_some, mk_size'']
          rw [if_pos (by omega), if_pos (by simp only [List.length_append, List.length_cons, List.length_nil]; omega), if_pos (by simp only [List.length_append, List.length_cons, List.length_nil]; omega), if_pos (by simp only [List.length_append, List.length_cons, List.length_nil]; omega), if_pos (by simp only [List.length_append, List.length_cons, List.length_nil]; omega), if_pos (by simp only [List.length_append, List.length_cons, List.length_nil]; omega)]
          have hA : [97, 32] ++ digits (u + 1).toNat ++ [32] ++ digits (v + 1).toNat ++ [32] ++ digits w.toNat ++ [10] = arcLine ⟨u, v, w⟩ := rfl
          rw [hA]
          have e : text ⟨n, l.map ofS ++ [⟨u, v, w⟩]⟩ = (headLine ⟨n, l.map ofS ++ [⟨u, v, w⟩]⟩ ++ (l.map ofS).flatMap arcLine) ++ arcLine ⟨u, v, w⟩ := by
            unfold text
            simp
          have s2 := text_short' n (l ++ [⟨u, v, w⟩]) (by rw [em]; exact h2) (by simp; omega)
          rw [em] at s2
          have fin := more_j1 n l u v w hq h2 (by omega) 399 (by omega)
          rw [e] at s2 fin ⊢
          generalize headLine ⟨n, l.map ofS ++ [⟨u, v, w⟩]⟩ ++ (l.map ofS).flatMap arcLine = T at *
          generalize arcLine ⟨u, v, w⟩ = A at *
          rw [List.length_append] at s2
          rw [if_neg (by rw [List.length_append]; omega)]
          have ew : wrap64 (((T ++ A).length : Int) - (A.length : Int)) = (T.length : Int) := by
            rw [List.length_append, wrap_is (by omega)]; omega
          rw [ew, if_pos (by omega), if_pos (by rw [List.length_append]; omega), show ((T.length : Int)).toNat = T.length from rfl, mk_extract, List.take_of_length_le (by omega), List.drop_left']
          · rw [show ((mk A).toList != (mk A).toList) = false by simp]
            exact fin
          · rfl
        · rw [if_neg h2]
          simp only [Option.bind_some, ansP']
          rw [show (check ⟨n, l.map ofS ++ [⟨u, v, w⟩]⟩ == 0) = false by simpa using h2, if_neg (by decide), if_neg h2, if_pos (by first | decide | kernel_rfl | simp [mk, ByteArray.toList]), known_is _ (by omega)]
          rfl
  · rw [if_neg hq]
    show (if check ⟨n, l.map ofS⟩ = 0 then (if (l.length : Int) > 50 then (postroadlaw05_GrMore.j0 400 u v w (mk []) true n l) else (postroadlaw05_GrMore.j0 400 u v w (mk []) (n == 0) n l)) else (postroadlaw05_GrMore.j0 400 u v w (mk []) true n l)) = some true
    rw [if_neg hq]
    exact known _

theorem postroadlaw05_GrMore.walk (P : ∀ n l u v w, postroadlaw05_GrMore.f 400 n l u v w = some true) (a : Int) (A : Option Addr) (c : Nat) (l : List S50) (u v x : Int) (w : World)
    (_ : (Lit.int .i64 a).wf = true) (_ : c ≤ maxLen) (hc : l.length ≤ c) (hC : Kd.C k50 w A l.length l) (_ : ∀ s ∈ l, (Lit.int .i64 s.f0).wf = true ∧ (Lit.int .i64 s.f1).wf = true ∧ (Lit.int .i64 s.f2).wf = true)
    (_ : (Lit.int .i64 u).wf = true) (_ : (Lit.int .i64 v).wf = true) (_ : (Lit.int .i64 x).wf = true) (hT : Lib.TabIs Tryd.prog w "internal/strconv.uint64pow10" .u64 Lib.pow10Tab) :
    Calls Tryd.prog 9 #[.agg #[.int .i64 a, .slice A l.length c], .int .i64 u, .int .i64 v, .int .i64 x] w fun e w' => e = .returned (.bool true) ∧ Below w.heap.size w w' :=
  postroadlaw05_GrMore.calls 400 a A c l u v x true w hC hc hT (P a l u v x)
end Go.Proofs.YtegikndkokemjaaDoor.PAll
