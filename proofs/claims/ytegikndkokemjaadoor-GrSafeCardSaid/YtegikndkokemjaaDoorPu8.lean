import Derived.Test.YtegikndkokemjaaDoorPuA
import Derived.Test.YtegikndkokemjaaDoorPAllx11
namespace Go.Proofs.YtegikndkokemjaaDoor.PAll
open Go.RowKit Go.Proofs.YtegikndkokemjaaDoorW.PrintWords Go.Proofs.YtegikndkokemjaaDoorW.PrintLast Go.Proofs.YtegikndkokemjaaDoorW.PrintMore
open GrFn

/-- an arc that may not be -/
def badS (n : Int) (x : S50) : Bool := badArc n (ofS x)

theorem check_step (n : Int) (x : S50) (q : Option Int) : (if (mn (mn (x.f0) (x.f1)) (x.f2)) < 0 then (some 2) else (if (mx (x.f0) (x.f1)) ≥ n then (some 2) else (if (x.f2) > 2147483648 then (some 2) else q))) = if badS n x = true then some 2 else q := by
  have e : badS n x = true ↔ (x.f0 < 0 ∨ n ≤ x.f0 ∨ x.f1 < 0 ∨ n ≤ x.f1 ∨ x.f2 < 0 ∨ 2147483648 < x.f2) := by
    unfold badS badArc
    simp only [Bool.or_eq_true, decide_eq_true_eq, or_assoc]
    exact Iff.rfl
  by_cases h : badS n x = true
  · rw [if_pos h]
    rw [e] at h
    split
    · rfl
    · split
      · rfl
      · split
        · rfl
        · exfalso
          simp only [mn, mx] at *
          omega
  · rw [if_neg h]
    rw [e] at h
    rw [if_neg (by simp only [mn]; omega), if_neg (by simp only [mx]; omega), if_neg (by omega)]

theorem check_l (n : Int) (l : List S50) (hl : l.length < 4611686018427387904) : ∀ (d i k : Nat), i + d = l.length → d < k → gr_Check.l0 k l (l.length : Int) (i : Int) n l = some (if (l.drop i).any (badS n) = true then 2 else 0)
  | 0, i, k, hi, hk => by
    match k, hk with
    | k + 1, _ =>
      rw [gr_Check.l0, if_neg (by omega), List.drop_of_length_le (by omega)]
      rfl
  | d + 1, i, k, hi, hk => by
    match k, hk with
    | k + 1, hk =>
      rw [gr_Check.l0, if_pos (by omega), if_pos (by omega), if_pos (by omega), check_step, drop_rd l i (by omega), show wrap64 ((i : Int) + 1) = ((i + 1 : Nat) : Int) by rw [wrap_is (by omega)]; omega, check_l n l hl d (i + 1) k (by omega) (by omega), List.any_cons]
      cases badS n (rd_T50 l (i : Int)) <;> simp

theorem gr_check_is (n : Int) (l : List S50) (hl : l.length < 4611686018427387904) (k : Nat) (hk : l.length + 1 < k) : gr_Check.f k n l = some (check ⟨n, l.map ofS⟩) := by
  obtain ⟨k, rfl⟩ : ∃ q, k = q + 1 := ⟨k - 1, by omega⟩
  unfold gr_Check.f check
  simp only [List.length_map]
  by_cases h1 : n > 16777216
  · rw [if_pos h1, gr_Check.j0, if_pos rfl, if_pos (Or.inl h1)]
  · rw [if_neg h1, gr_Check.j0]
    by_cases h2 : (l.length : Int) > 67108864
    · rw [if_pos (by simpa using h2), if_pos (by omega)]
    · rw [if_neg (by simpa using h2), if_neg (by omega : ¬ (16777216 < n ∨ 67108864 < l.length))]
      by_cases h3 : n < 0
      · rw [if_pos h3, if_pos h3]
      · rw [if_neg h3, if_neg h3]
        have := check_l n l hl l.length 0 k (by omega) (by omega)
        simp only [List.drop_zero] at this
        rw [show ((0 : Nat) : Int) = 0 from rfl] at this
        rw [this, List.any_map]
        congr 1

/-- what every line leaves -/
structure Fine (t : St) : Prop where
  n0 : 0 ≤ t.n
  n1 : t.n ≤ 16777216
  m0 : -1 ≤ t.many
  m1 : t.many = -1 → t.arcs = []
  good : t.arcs.any (badArc t.n) = false

theorem number_le {l : List UInt8} {most v : Int} (h : number l most = some v) : v ≤ most := by
  unfold number at h
  split at h
  · cases h
  · split at h
    · cases h
    · split at h
      · split at h
        · cases h
        · cases h; omega
      · cases h

theorem fine_line (t u : St) (x : List UInt8) (h : Fine t) (hq : GrFn.line t x = some u) : Fine u := by
  cases hw : GrFn.words x with
  | nil => rw [line_nil hw] at hq; cases hq; exact h
  | cons y r =>
    rw [line_cons hw] at hq
    split at hq
    · cases hq; exact h
    · split at hq
      · cases r with
        | nil => cases hq
        | cons y ys =>
          rw [size_cons] at hq
          split at hq
          · cases hq
          · rename_i hm
            split at hq
            · match ys with
              | [] => cases hq
              | [_] =>
                rw [numbers_len _ _ (by simp)] at hq
                cases hq
              | [a, b] =>
                rw [numbers2] at hq
                cases ha : number a 16777216 with
                | none => rw [ha] at hq; cases hq
                | some u =>
                  rw [ha] at hq
                  cases hb : number b 67108864 with
                  | none => rw [hb] at hq; cases hq
                  | some v =>
                    rw [hb] at hq
                    cases hq
                    have h1 := number_bounds ha
                    have h2 := number_le ha
                    have h3 := number_bounds hb
                    have e : t.arcs = [] := h.m1 (by have := h.m0; omega)
                    exact ⟨h1.1, h2, by show -1 ≤ v; omega, fun _ => e, by simp [e]⟩
              | _ :: _ :: _ :: _ =>
                rw [numbers_len _ _ (by simp)] at hq
                cases hq
            · cases hq
      · split at hq
        · unfold GrFn.arc at hq
          match r with
          | [a, b, c] =>
            rw [numbers3] at hq
            cases ha : number a t.n with
            | none => rw [ha] at hq; cases hq
            | some u =>
              rw [ha] at hq
              cases hb : number b t.n with
              | none => rw [hb] at hq; cases hq
              | some v =>
                rw [hb] at hq
                cases hc : number c 2147483648 with
                | none => rw [hc] at hq; cases hq
                | some w =>
                  rw [hc] at hq
                  simp only at hq
                  split at hq
                  · cases hq
                  · cases hq
                    rename_i hno
                    have a1 := number_bounds ha
                    have a2 := number_le ha
                    have b1 := number_bounds hb
                    have b2 := number_le hb
                    have c1 := number_bounds hc
                    have c2 := number_le hc
                    have hm0 := h.m0
                    refine ⟨h.n0, h.n1, h.m0, fun e => ?_, ?_⟩
                    · exfalso
                      simp only at e
                      omega
                    · simp only [List.any_append, h.good, List.any_cons, List.any_nil, Bool.or_false, Bool.false_or]
                      simp [badArc]
                      omega
          | [] => rw [numbers_len _ _ (by simp)] at hq; cases hq
          | [_] => rw [numbers_len _ _ (by simp)] at hq; cases hq
          | [_, _] => rw [numbers_len _ _ (by simp)] at hq; cases hq
          | _ :: _ :: _ :: _ :: _ => rw [numbers_len _ _ (by simp)] at hq; cases hq
        · cases hq

theorem fine_lines : ∀ (l : List (List UInt8)) (t u : St) (i : Int), Fine t → GrFn.lines t l i = .inl u → Fine u
  | [], t, u, i, h, hq => by cases hq; exact h
  | x :: l, t, u, i, h, hq => by
    rw [lines_cons] at hq
    cases hx : GrFn.line t x with
    | none => rw [hx] at hq; cases hq
    | some v => rw [hx] at hq; exact fine_lines l v u (i + 1) (fine_line t v x h hx) hq

theorem fine_start : Fine ⟨0, [], -1⟩ := ⟨by decide, by decide, by decide, fun _ => rfl, rfl⟩

theorem ofS_toS (a : Arc) : ofS (toS a) = a := rfl

/-- what is read may be -/
theorem parse_fine (l : List UInt8) (hl : l.length ≤ 1000000) (m : M) (h : GrFn.parse l = .inl m) : check m = 0 := by
  have hlen := parse_arcs l
  rw [h] at hlen
  rw [parse_strip] at h
  split at h
  · cases h
  · cases hq : GrFn.lines ⟨0, [], -1⟩ (cutAt 10 (strip l).1) 0 with
    | inr j => rw [hq] at h; cases h
    | inl u =>
      rw [hq] at h
      simp only [close] at h
      split at h
      · cases h
        have hf := fine_lines _ _ _ _ fine_start hq
        simp only [ansR, List.length_map] at hlen
        unfold check
        rw [if_neg (by have := hf.n1; simp only; omega), if_neg (by have := hf.n0; simp only; omega), hf.good]
        rfl
      · cases h
end Go.Proofs.YtegikndkokemjaaDoor.PAll

namespace Go.Proofs.YtegikndkokemjaaDoor.PAll
open Go.RowKit Go.Proofs.YtegikndkokemjaaDoorW.PrintWords Go.Proofs.YtegikndkokemjaaDoorW.PrintLast Go.Proofs.YtegikndkokemjaaDoorW.PrintMore
open GrFn

theorem cutAt_cons_at (c : UInt8) (l : List UInt8) : cutAt c (c :: l) = [] :: cutAt c l := by rw [cutAt, if_pos rfl]

theorem cutAt_app (c : UInt8) : ∀ (a b : List UInt8), cutAt c (a ++ c :: b) = cutAt c a ++ cutAt c b
  | [], b => by rw [List.nil_append, cutAt_cons_at]; rfl
  | x :: a, b => by
    have ih := cutAt_app c a b
    rw [List.cons_append, cutAt, cutAt]
    split
    · rw [ih]; rfl
    · rw [ih]
      cases h : cutAt c a with
      | nil => exact absurd h (Split.cutAt_ne c a)
      | cons p q => rfl

theorem cutAt_count (c : UInt8) : ∀ l : List UInt8, (cutAt c l).length = l.count c + 1
  | [] => by simp [cutAt]
  | x :: l => by
    have ih := cutAt_count c l
    rw [cutAt, List.count_cons]
    split
    · rename_i h
      rw [List.length_cons, ih, h]; simp
    · rename_i h
      cases hq : cutAt c l with
      | nil => exact absurd hq (Split.cutAt_ne c l)
      | cons p q =>
        rw [hq] at ih
        simp [h] at ih ⊢
        omega

theorem strip_cases (l : List UInt8) : (∃ r, l = r ++ [10] ∧ strip l = (r, true)) ∨ (l.getLast? ≠ some 10 ∧ strip l = (l, false)) := by
  unfold strip
  split
  · rename_i h
    left
    obtain ⟨r, hr⟩ := List.getLast?_eq_some_iff.1 h
    refine ⟨r, hr, ?_⟩
    rw [hr]; simp
  · rename_i h
    exact .inr ⟨h, rfl⟩

theorem lines_range : ∀ (l : List (List UInt8)) (t : St) (i j : Int), GrFn.lines t l i = .inr j → i + 1 ≤ j ∧ j ≤ i + l.length
  | [], t, i, j, h => by cases h
  | x :: l, t, i, j, h => by
    rw [lines_cons] at h
    cases hx : GrFn.line t x with
    | none => rw [hx] at h; cases h; simp; omega
    | some v =>
      rw [hx] at h
      have := lines_range l v (i + 1) j h
      simp only [List.length_cons]
      omega

/-- where it is found that a text is no map -/
theorem parse_bad (l : List UInt8) (j : Int) (h : GrFn.parse l = .inr j) : 1 ≤ j ∧ j ≤ (l.count 10 : Int) + 2 ∧
    (j ≤ (l.count 10 : Int) → l ≠ [] → GrFn.lines ⟨0, [], -1⟩ (cutAt 10 (strip l).1) 0 = .inr j) := by
  rw [parse_strip] at h
  have hc : (cutAt 10 (strip l).1).length ≤ l.count 10 + 1 ∧ l.count 10 ≤ (cutAt 10 (strip l).1).length := by
    rw [cutAt_count]
    rcases strip_cases l with ⟨r, hr, hs⟩ | ⟨_, hs⟩
    · rw [hs, hr, List.count_append]; simp
    · rw [hs]; simp
  split at h
  · rename_i hz
    cases h
    refine ⟨by omega, by omega, fun hj hne => ?_⟩
    exfalso
    apply hne
    rcases strip_cases l with ⟨r, hr, hs⟩ | ⟨_, hs⟩
    · rw [hs] at hz; cases hz.2
    · rw [hs] at hz; exact hz.1
  · cases hq : GrFn.lines ⟨0, [], -1⟩ (cutAt 10 (strip l).1) 0 with
    | inr q =>
      rw [hq] at h
      simp only [close] at h
      cases h
      have := lines_range _ _ _ _ hq
      exact ⟨by omega, by omega, fun _ _ => rfl⟩
    | inl u =>
      rw [hq] at h
      simp only [close] at h
      split at h
      · cases h
      · cases h
        refine ⟨by omega, by omega, fun hj hne => ?_⟩
        exfalso
        omega

/-- lines behind that one change nothing -/
theorem parse_more (s more : List UInt8) (j : Int) (hl : GrFn.lines ⟨0, [], -1⟩ (cutAt 10 (strip s).1) 0 = .inr j) : GrFn.parse (s ++ 10 :: more) = .inr j := by
  have hP : ∃ Y, cutAt 10 s = cutAt 10 (strip s).1 ++ Y := by
    rcases strip_cases s with ⟨r, hr, hs⟩ | ⟨_, hs⟩
    · rw [hs, hr, cutAt_app]; exact ⟨_, rfl⟩
    · rw [hs]; exact ⟨[], by simp⟩
  obtain ⟨Y, hY⟩ := hP
  have hN : ∃ Z, cutAt 10 (strip (s ++ 10 :: more)).1 = cutAt 10 s ++ Z := by
    rcases strip_cases (s ++ 10 :: more) with ⟨r, hr, hs⟩ | ⟨_, hs⟩
    · rw [hs]
      cases hm : more.getLast? with
      | none =>
        have : more = [] := List.getLast?_eq_none_iff.1 hm
        subst this
        have : s = r := by simpa using hr
        exact ⟨[], by simp [this]⟩
      | some d =>
        obtain ⟨q, hq⟩ := List.getLast?_eq_some_iff.1 hm
        rw [hq] at hr
        have h2 : (s ++ 10 :: q) ++ [d] = r ++ [10] := by simpa using hr
        have h3 := List.append_inj' h2 rfl
        rw [← h3.1]
        exact ⟨_, cutAt_app 10 s q⟩
    · rw [hs]
      exact ⟨_, cutAt_app 10 s more⟩
  obtain ⟨Z, hZ⟩ := hN
  rw [parse_strip, hZ, hY, List.append_assoc, lines_more _ _ _ _ _ hl, if_neg]
  · rfl
  · rintro ⟨h1, h2⟩
    rcases strip_cases (s ++ 10 :: more) with ⟨r, hr, hs⟩ | ⟨_, hs⟩
    · rw [hs] at h2; cases h2
    · rw [hs] at h1; simp at h1

theorem safe_l (s more : ByteArray) (e at_ n0 : Int) (l0 : List S50) (hs : s.size ≤ 1000) (K : Nat) : ∀ (d i c : Nat), i + d = s.size → c ≤ i + 1 →
    postroadlaw05_GrSafe.l0 (d + K) s more e at_ (c : Int) (i : Int) n0 l0 = postroadlaw05_GrSafe.l0 K s more e at_ ((c + ((bytes s).drop i).count 10 : Nat) : Int) (s.size : Int) n0 l0
  | 0, i, c, hi, hc => by
    have : i = s.size := by omega
    subst this
    rw [List.drop_of_length_le (by rw [size_bytes]; omega)]
    simp
  | d + 1, i, c, hi, hc => by
    obtain ⟨b, e1, e2, _, _⟩ := drop_bt s i (by omega)
    rw [show d + 1 + K = (d + K) + 1 by omega, postroadlaw05_GrSafe.l0, if_pos (by omega), if_pos (by omega), e2, e1]
    rw [show wrap64 ((i : Int) + 1) = ((i + 1 : Nat) : Int) by rw [wrap_is (by omega)]; omega]
    by_cases hb : b = 10
    · subst hb
      rw [if_pos (show (((10 : UInt8).toNat : Int)) = 10 from rfl), show wrap64 ((c : Int) + 1) = ((c + 1 : Nat) : Int) by rw [wrap_is (by omega)]; omega, safe_l s more e at_ n0 l0 hs K d (i + 1) (c + 1) (by omega) (by omega)]
      rw [List.count_cons_self]
      congr 1
      omega
    · rw [if_neg (by intro h; apply hb; apply UInt8.toNat_inj.1; have : (10 : UInt8).toNat = 10 := rfl; omega), safe_l s more e at_ n0 l0 hs K d (i + 1) c (by omega) (by omega)]
      rw [List.count_cons_of_ne (fun h => hb h)]

theorem pure_safe : postroadlaw05_GrSafe.Pure := by
  intro s more hs hm
  refine ⟨5000, ?_⟩
  unfold postroadlaw05_GrSafe.f
  by_cases h1 : (s.size : Int) > 800
  · rw [if_pos h1, postroadlaw05_GrSafe.j0, if_pos rfl, known_is 4999 (by omega)]; rfl
  rw [if_neg h1, postroadlaw05_GrSafe.j0]
  by_cases h2 : (more.size : Int) > 300
  · rw [if_pos (by simpa using h2), known_is 4999 (by omega)]; rfl
  rw [if_neg (by simpa using h2), gr_parse_is _ s (by omega)]
  simp only [Option.bind_some]
  have hl := safe_l s more (ansR (GrFn.parse (bytes s))).2.2.1 (ansR (GrFn.parse (bytes s))).2.2.2 (ansR (GrFn.parse (bytes s))).1 (ansR (GrFn.parse (bytes s))).2.1 (by omega) (4999 - s.size) s.size 0 1 (by omega) (by omega)
  rw [show s.size + (4999 - s.size) = 4999 by omega, List.drop_zero] at hl
  rw [show ((1 : Nat) : Int) = 1 from rfl, show ((0 : Nat) : Int) = 0 from rfl] at hl
  rw [hl]
  obtain ⟨K, hK⟩ : ∃ K, 4999 - s.size = K + 4 := ⟨4995 - s.size, by omega⟩
  have hKb : 4000 < K := by omega
  rw [hK, postroadlaw05_GrSafe.l0, if_neg (by omega), known_is _ (by omega)]
  have hlen := parse_arcs (bytes s)
  rw [size_bytes] at hlen
  cases hp : GrFn.parse (bytes s) with
  | inl m =>
    rw [hp] at hlen
    simp only [ansR] at hlen ⊢
    rw [if_pos trivial, if_pos trivial, gr_check_is _ _ (by omega) _ (by omega)]
    have : (m.arcs.map toS).map ofS = m.arcs := by
      rw [List.map_map]
      exact List.map_id m.arcs
    rw [this]
    have hf := parse_fine (bytes s) (by rw [size_bytes]; omega) m hp
    rw [show (⟨m.n, m.arcs⟩ : M) = m from rfl, hf]
    rfl
  | inr j =>
    obtain ⟨b1, b2, b3⟩ := parse_bad (bytes s) j hp
    have hcnt : (bytes s).count 10 ≤ 800 := by
      have := List.count_le_length (a := (10 : UInt8)) (l := bytes s)
      rw [size_bytes] at this
      omega
    simp only [ansR]
    rw [if_neg (by decide), if_pos trivial, if_neg (by omega), wrap_is (by omega), if_neg (by omega), if_pos trivial]
    rw [postroadlaw05_GrSafe.j2, if_neg (by simp)]
    have known3 : ∀ q : Int, postroadlaw05_GrSafe.j3 (K + 2) s more 12 j q true = some true := fun q => by
      rw [postroadlaw05_GrSafe.j3, if_pos rfl, known_is _ (by omega)]; rfl
    by_cases hj : j ≥ ((1 + (bytes s).count 10 : Nat) : Int)
    · rw [if_pos hj]
      exact known3 _
    · rw [if_neg hj, toList_eq]
      cases hb : bytes s with
      | nil =>
        rw [show (([] : List UInt8) == []) = true from rfl]
        exact known3 _
      | cons x r =>
        rw [show ((x :: r : List UInt8) == []) = false from rfl, postroadlaw05_GrSafe.j3, if_neg (by decide)]
        have s1 : (s ++ (⟨#[10]⟩ : ByteArray)).size = s.size + 1 := by rw [ByteArray.size_append]; rfl
        have s2 : ((s ++ (⟨#[10]⟩ : ByteArray)) ++ more).size = s.size + 1 + more.size := by rw [ByteArray.size_append, s1]
        have hbytes : bytes ((s ++ (⟨#[10]⟩ : ByteArray)) ++ more) = bytes s ++ 10 :: bytes more := by
          unfold bytes
          simp [ByteArray.data_append]
        rw [if_pos (by omega), if_pos (by omega), gr_parse_is _ _ (by omega), hbytes, parse_more (bytes s) (bytes more) j (b3 (by omega) (by rw [hb]; simp))]
        simp only [Option.bind_some, ansR]
        rw [if_pos trivial, if_pos trivial, known_is _ (by omega)]
        rfl
end Go.Proofs.YtegikndkokemjaaDoor.PAll
