import Derived.Test.YtegikndkokemjaaDoorPuD
import Derived.Test.YtegikndkokemjaaDoorPuC
import Derived.Test.YtegikndkokemjaaDoorExtQ
namespace Go.Proofs.YtegikndkokemjaaDoor.PAll
open Go.RowKit Go.Proofs.YtegikndkokemjaaDoorW.PrintWords Go.Proofs.YtegikndkokemjaaDoorW.PrintLast Go.Proofs.YtegikndkokemjaaDoorW.PrintMore
open GrFn

theorem words_sp (a b : List UInt8) : words (a ++ 32 :: b) = words a ++ words b := by
  unfold words
  rw [cutAt_app, List.filter_append]
theorem words_empty : words [] = [] := rfl
theorem words_space (b : List UInt8) : words (32 :: b) = words b := words_sp [] b
theorem words_one (a : List UInt8) (h : (32 : UInt8) ∉ a) (hn : a ≠ []) : words a = [a] := by
  unfold words
  rw [Split.cutAt_none 32 a h]
  cases a with
  | nil => exact absurd rfl hn
  | cons x l => rfl

theorem digits_no (n : Nat) (c : UInt8) (h : isDigit c = false) : c ∉ digits n := fun hc => by
  have := List.all_eq_true.1 (digits_all n) c hc
  rw [h] at this
  cases this
theorem digits_ne (n : Nat) : digits n ≠ [] := fun h => by
  have := digits_pos n
  rw [h] at this
  simp at this
theorem words_digits (n : Nat) : words (digits n) = [digits n] := words_one _ (digits_no n 32 (by decide)) (digits_ne n)

/-- every blank thrice -/
def triple (l : List UInt8) : List UInt8 := l.flatMap fun b => if b = 32 then [32, 32, 32] else [b]

theorem triple_none : ∀ l : List UInt8, (32 : UInt8) ∉ l → triple l = l
  | [], _ => rfl
  | x :: l, h => by
    rw [List.mem_cons, not_or] at h
    unfold triple
    rw [List.flatMap_cons, if_neg (fun e => h.1 e.symm)]
    have := triple_none l h.2
    unfold triple at this
    rw [this]; rfl
theorem first_space : ∀ l : List UInt8, (32 : UInt8) ∈ l → ∃ a b, l = a ++ 32 :: b ∧ (32 : UInt8) ∉ a
  | [], h => by cases h
  | x :: l, h => by
    by_cases hx : x = 32
    · exact ⟨[], l, by rw [hx]; rfl, by simp⟩
    · have hl : (32 : UInt8) ∈ l := by
        rcases List.mem_cons.1 h with e | e
        · exact absurd e.symm hx
        · exact e
      obtain ⟨a, b, e, hn⟩ := first_space l hl
      refine ⟨x :: a, b, by rw [e]; rfl, ?_⟩
      rw [List.mem_cons, not_or]
      exact ⟨fun e => hx e.symm, hn⟩
theorem words_triple : ∀ (n : Nat) (l : List UInt8), l.length ≤ n → words (triple l) = words l
  | 0, l, h => by
    have : l = [] := List.length_eq_zero_iff.1 (by omega)
    subst this
    rfl
  | n + 1, l, h => by
    by_cases hs : (32 : UInt8) ∈ l
    · obtain ⟨a, b, rfl, hn⟩ := first_space l hs
      have e : triple (a ++ 32 :: b) = a ++ 32 :: 32 :: 32 :: triple b := by
        have h1 := triple_none a hn
        unfold triple at h1 ⊢
        rw [List.flatMap_append, List.flatMap_cons, if_pos rfl, h1]
        rfl
      rw [e, words_sp, words_space, words_space, words_sp, words_triple n b (by simp at h; omega)]
    · rw [triple_none l hs]

/-- lines, each with its end -/
def unlines (L : List (List UInt8)) : List UInt8 := L.flatMap (· ++ [10])

theorem cut_unlines : ∀ (L : List (List UInt8)), (∀ x ∈ L, (10 : UInt8) ∉ x) → cutAt 10 (unlines L) = L ++ [[]]
  | [], _ => rfl
  | x :: L, h => by
    have : unlines (x :: L) = x ++ 10 :: unlines L := by unfold unlines; rw [List.flatMap_cons]; simp
    rw [this, cutAt_app, Split.cutAt_none 10 x (h x (by simp)), cut_unlines L (fun y hy => h y (by simp [hy]))]
    rfl

theorem strip_unlines (L : List (List UInt8)) (h : ∀ x ∈ L, (10 : UInt8) ∉ x) (hn : L ≠ []) : (strip (unlines L)).2 = true ∧ cutAt 10 (strip (unlines L)).1 = L := by
  have hlast : ∃ r, unlines L = r ++ [10] := by
    obtain ⟨M, x, rfl⟩ : ∃ M x, L = M ++ [x] := ⟨L.dropLast, L.getLast hn, (List.dropLast_concat_getLast hn).symm⟩
    refine ⟨unlines M ++ x, ?_⟩
    unfold unlines
    rw [List.flatMap_append]
    simp
  obtain ⟨r, hr⟩ := hlast
  have hs : strip (unlines L) = (r, true) := by
    unfold strip
    rw [hr]
    simp
  rw [hs]
  refine ⟨rfl, ?_⟩
  have h1 := cut_unlines L h
  rw [hr, cutAt_app] at h1
  exact List.append_cancel_right h1

/-- a text of lines -/
theorem parse_unlines (L : List (List UInt8)) (h : ∀ x ∈ L, (10 : UInt8) ∉ x) (hn : L ≠ []) : GrFn.parse (unlines L) = close L.length (GrFn.lines ⟨0, [], -1⟩ L 0) := by
  obtain ⟨h1, h2⟩ := strip_unlines L h hn
  rw [parse_strip, h2, if_neg]
  rintro ⟨_, h3⟩
  rw [h1] at h3
  cases h3

/-- the lines of a map's text -/
def headWords (m : M) : List UInt8 := [112, 32, 115, 112, 32] ++ digits m.n.toNat ++ [32] ++ digits m.arcs.length
def arcWords (a : Arc) : List UInt8 := [97, 32] ++ digits (a.src + 1).toNat ++ [32] ++ digits (a.dst + 1).toNat ++ [32] ++ digits a.w.toNat
theorem text_unlines (m : M) : text m = unlines (headWords m :: m.arcs.map arcWords) := by
  unfold text unlines headLine headWords
  rw [List.flatMap_cons, List.flatMap_map]
  rfl

theorem head_no (m : M) : (10 : UInt8) ∉ headWords m := by
  unfold headWords
  simp only [List.mem_append, not_or]
  exact ⟨⟨⟨by decide, digits_no _ 10 (by decide)⟩, by decide⟩, digits_no _ 10 (by decide)⟩
theorem arc_no (a : Arc) : (10 : UInt8) ∉ arcWords a := by
  unfold arcWords
  simp only [List.mem_append, not_or]
  exact ⟨⟨⟨⟨⟨by decide, digits_no _ 10 (by decide)⟩, by decide⟩, digits_no _ 10 (by decide)⟩, by decide⟩, digits_no _ 10 (by decide)⟩

theorem words_head (m : M) : words (headWords m) = [[112], [115, 112], digits m.n.toNat, digits m.arcs.length] := by
  have e : headWords m = [112] ++ 32 :: ([115, 112] ++ 32 :: (digits m.n.toNat ++ 32 :: digits m.arcs.length)) := by simp [headWords]
  rw [e, words_sp, words_sp, words_sp, words_digits, words_digits]
  rfl
theorem words_arc (a : Arc) : words (arcWords a) = [[97], digits (a.src + 1).toNat, digits (a.dst + 1).toNat, digits a.w.toNat] := by
  have e : arcWords a = [97] ++ 32 :: (digits (a.src + 1).toNat ++ 32 :: (digits (a.dst + 1).toNat ++ 32 :: digits a.w.toNat)) := by simp [arcWords]
  rw [e, words_sp, words_sp, words_sp, words_digits, words_digits, words_digits]
  rfl

theorem number_ok (n most : Int) (h0 : 0 ≤ n) (h1 : n ≤ most) (h2 : n < 10000000000) : number (digits n.toNat) most = some n := by
  rw [number_digits (by omega) most, if_neg (by omega)]
  congr 1
  omega

theorem line_head (m : M) (h : check m = 0) (l : List UInt8) (hl : words l = words (headWords m)) : GrFn.line ⟨0, [], -1⟩ l = some ⟨m.n, [], m.arcs.length⟩ := by
  obtain ⟨h0, h1, h2, _⟩ := check_ok h
  rw [words_head] at hl
  rw [line_cons hl, if_neg (by decide), if_pos rfl, size_cons, if_neg (by decide), if_pos rfl, numbers2, number_ok m.n _ h0 h1 (by omega)]
  have e2 := number_ok (m.arcs.length : Int) 67108864 (by omega) (by omega) (by omega)
  rw [Int.toNat_natCast] at e2
  rw [e2]

theorem line_arc (n many : Int) (pre : List Arc) (a : Arc) (hn : n ≤ 16777216) (ha : 0 ≤ a.src ∧ a.src < n ∧ 0 ≤ a.dst ∧ a.dst < n ∧ 0 ≤ a.w ∧ a.w ≤ 2147483648) (hm : (pre.length : Int) < many) (l : List UInt8) (hl : words l = words (arcWords a)) :
    GrFn.line ⟨n, pre, many⟩ l = some ⟨n, pre ++ [a], many⟩ := by
  rw [words_arc] at hl
  rw [line_cons hl, if_neg (by decide), if_neg (by decide), if_pos rfl]
  unfold GrFn.arc
  rw [numbers3, number_ok (a.src + 1) n (by omega) (by omega) (by omega), number_ok (a.dst + 1) n (by omega) (by omega) (by omega), number_ok a.w 2147483648 (by omega) (by omega) (by omega)]
  simp only
  rw [if_neg (by omega)]
  have : (⟨a.src + 1 - 1, a.dst + 1 - 1, a.w⟩ : Arc) = a := by
    cases a
    simp only [Arc.mk.injEq]
    exact ⟨by omega, by omega, trivial⟩
  rw [this]

/-- notes and empty lines -/
theorem line_note (t : St) (l r : List UInt8) (hl : words l = [99] :: words r) : GrFn.line t l = some t := by
  rw [line_cons hl, if_pos rfl]

/-- lines that are read as the arcs' lines, with lines between that change nothing -/
def Reads (l : List (List UInt8)) (qs : List Arc) : Prop := ∀ (n many : Int) (pre : List Arc) (i : Int), n ≤ 16777216 → (∀ a ∈ qs, 0 ≤ a.src ∧ a.src < n ∧ 0 ≤ a.dst ∧ a.dst < n ∧ 0 ≤ a.w ∧ a.w ≤ 2147483648) → (pre.length + qs.length : Int) ≤ many → GrFn.lines ⟨n, pre, many⟩ l i = .inl ⟨n, pre ++ qs, many⟩

theorem reads_arcs : ∀ qs : List Arc, Reads (qs.map arcWords) qs
  | [] => fun n many pre i _ _ _ => by simp [GrFn.lines]
  | a :: qs => fun n many pre i hn ha hm => by
    rw [List.map_cons, lines_cons, line_arc n many pre a hn (ha a (by simp)) (by simp only [List.length_cons] at hm; omega) _ rfl]
    simp only
    rw [reads_arcs qs n many (pre ++ [a]) (i + 1) hn (fun b hb => ha b (by simp [hb])) (by simp only [List.length_cons, List.length_append, List.length_nil] at hm ⊢; omega)]
    simp

/-- a map is read from its text as it was -/
theorem parse_text (m : M) (h : check m = 0) : GrFn.parse (text m) = .inl m := by
  obtain ⟨h0, h1, h2, h3⟩ := check_ok h
  rw [text_unlines, parse_unlines _ (by
    intro x hx
    rcases List.mem_cons.1 hx with rfl | hx
    · exact head_no m
    · obtain ⟨a, _, rfl⟩ := List.mem_map.1 hx
      exact arc_no a) (by simp), lines_cons, line_head m h _ rfl]
  simp only
  rw [reads_arcs m.arcs m.n m.arcs.length [] _ h1 h3 (by simp)]
  simp [close]

/-- the text with more blanks and with notes -/
def noted (note : List UInt8) (L : List (List UInt8)) : List (List UInt8) := L.flatMap fun l => [triple l, [32, 32, 32, 99, 32] ++ note]
theorem words_note0 (note : List UInt8) : words ([99, 32] ++ note) = [99] :: words note := words_sp [99] note
theorem words_note3 (note : List UInt8) : words ([32, 32, 32, 99, 32] ++ note) = [99] :: words note := by
  show words (32 :: 32 :: 32 :: ([99] ++ 32 :: note)) = _
  rw [words_space, words_space, words_space, words_sp]
  rfl

theorem reads_noted (note : List UInt8) : ∀ qs : List Arc, Reads (noted note (qs.map arcWords)) qs
  | [] => fun n many pre i _ _ _ => by simp [noted, GrFn.lines]
  | a :: qs => fun n many pre i hn ha hm => by
    have e : noted note ((a :: qs).map arcWords) = triple (arcWords a) :: ([32, 32, 32, 99, 32] ++ note) :: noted note (qs.map arcWords) := rfl
    rw [e, lines_cons, line_arc n many pre a hn (ha a (by simp)) (by simp only [List.length_cons] at hm; omega) _ (words_triple _ _ (Nat.le_refl _))]
    simp only
    rw [lines_cons, line_note _ _ note (words_note3 note)]
    simp only
    rw [reads_noted note qs n many (pre ++ [a]) (i + 1 + 1) hn (fun b hb => ha b (by simp [hb])) (by simp only [List.length_cons, List.length_append, List.length_nil] at hm ⊢; omega)]
    simp

theorem triple_no (l : List UInt8) (h : (10 : UInt8) ∉ l) : (10 : UInt8) ∉ triple l := by
  unfold triple
  rw [List.mem_flatMap]
  rintro ⟨b, hb, hx⟩
  split at hx
  · simp at hx
  · rw [List.mem_singleton] at hx
    exact h (hx ▸ hb)

/-- it is read so, too, with more blanks and with notes -/
theorem parse_noted (m : M) (note : List UInt8) (hnote : (10 : UInt8) ∉ note) (h : check m = 0) : GrFn.parse (unlines (([99, 32] ++ note) :: [] :: noted note (headWords m :: m.arcs.map arcWords))) = .inl m := by
  obtain ⟨h0, h1, h2, h3⟩ := check_ok h
  have e : noted note (headWords m :: m.arcs.map arcWords) = triple (headWords m) :: ([32, 32, 32, 99, 32] ++ note) :: noted note (m.arcs.map arcWords) := rfl
  rw [parse_unlines _ (by
    intro x hx
    rcases List.mem_cons.1 hx with rfl | hx
    · simp only [List.mem_append, not_or]; exact ⟨by decide, hnote⟩
    · rcases List.mem_cons.1 hx with rfl | hx
      · simp
      · obtain ⟨y, hy, hx⟩ := List.mem_flatMap.1 hx
        have hy10 : (10 : UInt8) ∉ y := by
          rcases List.mem_cons.1 hy with rfl | hy
          · exact head_no m
          · obtain ⟨a, _, rfl⟩ := List.mem_map.1 hy
            exact arc_no a
        simp only [List.mem_cons, List.not_mem_nil, or_false] at hx
        rcases hx with rfl | rfl
        · exact triple_no y hy10
        · simp only [List.mem_append, not_or]; exact ⟨by decide, hnote⟩) (by simp), lines_cons, line_note _ _ note (words_note0 note)]
  simp only
  rw [lines_cons, line_nil words_empty]
  simp only
  rw [e, lines_cons, line_head m h _ (words_triple _ _ (Nat.le_refl _))]
  simp only
  rw [lines_cons, line_note _ _ note (words_note3 note)]
  simp only
  rw [reads_noted note m.arcs m.n m.arcs.length [] _ h1 h3 (by simp)]
  simp [close]
end Go.Proofs.YtegikndkokemjaaDoor.PAll
