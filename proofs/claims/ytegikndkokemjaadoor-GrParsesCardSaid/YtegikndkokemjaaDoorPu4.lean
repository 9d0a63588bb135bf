import Derived.Test.YtegikndkokemjaaDoorPu3
namespace Go.Proofs.YtegikndkokemjaaDoor.PAll
open Go.RowKit Go.Proofs.YtegikndkokemjaaDoorW.PrintWords Go.Proofs.YtegikndkokemjaaDoorW.PrintLast Go.Proofs.YtegikndkokemjaaDoorW.PrintMore
open GrFn

theorem number_bounds {l : List UInt8} {most v : Int} (h : number l most = some v) : 0 ≤ v ∧ v < 10000000000 := by
  unfold number at h
  split at h
  · cases h
  · rename_i hl
    split at h
    · cases h
    · split at h
      · rename_i ha
        split at h
        · cases h
        · cases h
          have h1 := num_lt l ha
          have h2 : num l < 10 ^ 10 := Nat.lt_of_lt_of_le h1 (Nat.pow_le_pow_right (by omega) (by omega))
          omega
      · cases h

/-- the reference's state and the plain one -/
def Rl (n : Int) (l : List S50) (m : Int) (p : Bool) (t : St) : Prop := (p = true ∧ n = t.n ∧ l = t.arcs.map toS ∧ m = t.many ∧ 0 ≤ t.many) ∨ (p = false ∧ n = 0 ∧ l = [] ∧ t = ⟨0, [], -1⟩)

theorem Rl.many {n : Int} {l : List S50} {m : Int} {p : Bool} {t : St} (h : Rl n l m p t) : p = decide (0 ≤ t.many) := by
  rcases h with ⟨rfl, _, _, _, h⟩ | ⟨rfl, _, _, rfl⟩
  · simpa using h
  · rfl
theorem Rl.base {n : Int} {l : List S50} {m : Int} {p : Bool} {t : St} (h : Rl n l m p t) : n = t.n ∧ l = t.arcs.map toS := by
  rcases h with ⟨_, h1, h2, _, _⟩ | ⟨_, rfl, rfl, rfl⟩
  · exact ⟨h1, h2⟩
  · exact ⟨rfl, rfl⟩

/-- what the reference's line answers -/
def LineAns (o : Option St) (c : Nat) (r : Option (Int × (List (S50)) × Int × Bool × Bool)) : Prop :=
  match o with
  | some u => ∃ n l m p, r = some (n, l, m, p, true) ∧ Rl n l m p u ∧ l.length ≤ c
  | none => ∃ n l m p, r = some (n, l, m, p, false)

theorem rd0 (x : ByteArray) (l : List ByteArray) : rdOf ByteArray.empty (x :: l) 0 = x := rfl
theorem rd1 (x y : ByteArray) (l : List ByteArray) : rdOf ByteArray.empty (x :: y :: l) 1 = y := rfl
theorem rd2 (x y z : ByteArray) (l : List ByteArray) : rdOf ByteArray.empty (x :: y :: z :: l) 2 = z := rfl
theorem rd3 (x y z u : ByteArray) (l : List ByteArray) : rdOf ByteArray.empty (x :: y :: z :: u :: l) 3 = u := rfl
theorem mk_toList (x : List UInt8) : (mk x).toList = x := by rw [toList_eq]; rfl

theorem line_j1_no (x : List UInt8) (r : List ByteArray) (k : Nat) (n : Int) (l : List S50) (m : Int) (p : Bool) (hx : x ≠ [97]) : postroadref05_line.j1 (k + 2) (mk x :: r) false n l m p = some (n, l, m, p, false) := by
  rw [postroadref05_line.j1, if_neg (by decide), if_pos (by simp <;> omega), rd0, mk_toList, if_neg hx, postroadref05_line.j2, if_neg (by decide)]

theorem numbers2 (a b : List UInt8) (m1 m2 : Int) : numbers [a, b] [m1, m2] = match number a m1 with
    | none => none
    | some u => match number b m2 with
      | none => none
      | some v => some [u, v] := by
  rw [numbers_cons, numbers_cons]
  cases number a m1 with
  | none => rfl
  | some u => cases number b m2 <;> rfl
theorem numbers3 (a b c : List UInt8) (m1 m2 m3 : Int) : numbers [a, b, c] [m1, m2, m3] = match number a m1 with
    | none => none
    | some u => match number b m2 with
      | none => none
      | some v => match number c m3 with
        | none => none
        | some w => some [u, v, w] := by
  rw [numbers_cons, numbers2]
  cases number a m1 with
  | none => rfl
  | some u =>
    cases number b m2 with
    | none => rfl
    | some v => cases number c m3 <;> rfl

theorem size_cons (t : St) (x : List UInt8) (ys : List (List UInt8)) : GrFn.size t (x :: ys) = if t.many ≥ 0 then none else if x = [115, 112] then
      match numbers ys [16777216, 67108864] with
      | some [a, b] => some { t with n := a, many := b }
      | _ => none
    else none := rfl

theorem line_p (r : List (List UInt8)) (k : Nat) (hk : 20 < k) (n : Int) (l : List S50) (m : Int) (p : Bool) (t : St) (h : Rl n l m p t) :
    LineAns (GrFn.size t r) (l.length + 1) (postroadref05_line.j0 (k + 3) (mk [112] :: r.map mk) false n l m p) := by
  have hno : ∀ q : List ByteArray, postroadref05_line.j1 (k + 2) (mk [112] :: q) false n l m p = some (n, l, m, p, false) := fun q => line_j1_no [112] q k n l m p (by decide)
  have fail : ∀ o : Option St, o = none → ∀ q, postroadref05_line.j0 (k + 3) q false n l m p = some (n, l, m, p, false) → LineAns o (l.length + 1) (postroadref05_line.j0 (k + 3) q false n l m p) := fun o ho q hq => by
    rw [ho, hq]; exact ⟨_, _, _, _, rfl⟩
  have far : ∀ q : List ByteArray, q.length ≠ 3 → postroadref05_line.j0 (k + 3) (mk [112] :: q) false n l m p = some (n, l, m, p, false) := fun q hq => by
    rw [postroadref05_line.j0, if_neg (by decide), if_pos (by simp <;> omega), rd0, mk_toList, if_pos rfl, if_neg (by simp <;> omega), hno]
  rcases r with _ | ⟨y, ys⟩
  · exact fail _ rfl _ (far _ (by simp))
  by_cases hl : ys.length = 2
  · match ys, hl with
    | [a, b], _ =>
      rw [List.map_cons, List.map_cons, List.map_cons, List.map_nil, postroadref05_line.j0, if_neg (by decide), if_pos (by simp), rd0, mk_toList, if_pos rfl, if_pos (by rfl), if_pos (by simp), rd1, mk_toList, h.many]
      rw [size_cons]
      by_cases hm : t.many ≥ 0
      · rw [if_pos hm, show (decide (0 ≤ t.many)) = true by simpa using hm]
        have := hno [mk y, mk a, mk b]
        rw [h.many, show (decide (0 ≤ t.many)) = true by simpa using hm] at this
        split
        · exact ⟨_, _, _, _, this⟩
        · exact ⟨_, _, _, _, this⟩
      · rw [if_neg hm, show (decide (0 ≤ t.many)) = false by simpa using hm]
        have hno' := hno [mk y, mk a, mk b]
        rw [h.many, show (decide (0 ≤ t.many)) = false by simpa using hm] at hno'
        by_cases hy : y = [115, 112]
        · rw [if_pos hy, if_pos hy, show (!false) = true from rfl, postroadref05_line.j1, if_pos rfl, if_pos (by simp <;> omega), rd2, ref_number _ _ _ (by omega)]
          simp only [Option.bind_some]
          rw [if_pos (by simp <;> omega), rd3, ref_number _ _ _ (by omega)]
          simp only [Option.bind_some]
          rw [numbers2, bytes_of_mk, bytes_of_mk]
          have hb := h.base
          cases ha : number a 16777216 with
          | none =>
            simp only [Option.getD_none]
            rw [if_neg (by decide)]
            exact ⟨_, _, _, _, rfl⟩
          | some u =>
            have hu := number_bounds ha
            simp only [Option.getD_some]
            rw [if_pos hu.1]
            cases hbb : number b 67108864 with
            | none => exact ⟨_, _, _, _, rfl⟩
            | some v =>
              have hv := number_bounds hbb
              simp only [Option.getD_some]
              exact ⟨_, _, _, _, by rw [show decide (v ≥ 0) = true by simpa using hv.1], .inl ⟨rfl, rfl, hb.2, rfl, hv.1⟩, by omega⟩
        · rw [if_neg hy, if_neg hy]
          exact ⟨_, _, _, _, hno'⟩
  · refine fail _ ?_ _ (far _ (by simpa using fun e => hl (by omega)))
    rw [size_cons, numbers_len ys [16777216, 67108864] (by simpa using hl)]
    split
    · rfl
    · split <;> rfl

theorem line_a (r : List (List UInt8)) (k : Nat) (hk : 20 < k) (n : Int) (l : List S50) (m : Int) (p : Bool) (t : St) (h : Rl n l m p t) (hll : l.length ≤ 100000) :
    LineAns (GrFn.arc t r) (l.length + 1) (postroadref05_line.j0 (k + 3) (mk [97] :: r.map mk) false n l m p) := by
  have e0 : ∀ q : List ByteArray, postroadref05_line.j0 (k + 3) (mk [97] :: q) false n l m p = postroadref05_line.j1 (k + 2) (mk [97] :: q) false n l m p := fun q => by
    rw [postroadref05_line.j0, if_neg (by decide), if_pos (by simp <;> omega), rd0, mk_toList, if_neg (by decide)]
  have no : ∀ q : List ByteArray, postroadref05_line.j2 (k + 1) q false n l m p = some (n, l, m, p, false) := fun q => by rw [postroadref05_line.j2, if_neg (by decide)]
  have e1 : ∀ q : List ByteArray, postroadref05_line.j1 (k + 2) (mk [97] :: q) false n l m p = if q.length = 3 then (if p = true then postroadref05_line.j2 (k + 1) (mk [97] :: q) (decide ((l.length : Int) < m)) n l m p else some (n, l, m, p, false)) else some (n, l, m, p, false) := fun q => by
    rw [postroadref05_line.j1, if_neg (by decide), if_pos (by simp <;> omega), rd0, mk_toList, if_pos rfl, no]
    by_cases hq : q.length = 3
    · rw [if_pos hq, if_pos (by simp <;> omega)]
    · rw [if_neg hq, if_neg (by simp <;> omega)]
  rw [e0, e1, List.length_map]
  unfold GrFn.arc
  by_cases hl : r.length = 3
  · match r, hl with
    | [a, b, c], _ =>
      rw [if_pos (show [a, b, c].length = 3 from rfl), numbers3]
      rcases h with ⟨rfl, rfl, rfl, rfl, hm⟩ | ⟨rfl, rfl, rfl, rfl⟩
      · rw [if_pos rfl]
        rw [List.length_map]
        by_cases hlt : (t.arcs.length : Int) < t.many
        · rw [show decide ((t.arcs.length : Int) < t.many) = true by simpa using hlt]
          rw [List.map_cons, List.map_cons, List.map_cons, List.map_nil, postroadref05_line.j2, if_pos rfl, if_pos (by simp <;> omega), rd1, ref_number _ _ _ (by omega)]
          simp only [Option.bind_some]
          rw [if_pos (by simp <;> omega), rd2, ref_number _ _ _ (by omega)]
          simp only [Option.bind_some]
          rw [if_pos (by simp <;> omega), rd3, ref_number _ _ _ (by omega)]
          simp only [Option.bind_some]
          rw [bytes_of_mk, bytes_of_mk, bytes_of_mk, if_pos (by rw [List.length_map] at hll ⊢; omega)]
          cases ha : number a t.n with
          | none =>
            simp only [Option.getD_none]
            rw [if_neg (by decide)]
            exact ⟨_, _, _, _, rfl⟩
          | some u =>
            have hu := number_bounds ha
            simp only [Option.getD_some]
            cases hb : number b t.n with
            | none =>
              simp only [Option.getD_none]
              by_cases h1 : u ≥ 1
              · rw [if_pos h1, if_neg (by decide)]
                exact ⟨_, _, _, _, rfl⟩
              · rw [if_neg h1]
                exact ⟨_, _, _, _, rfl⟩
            | some v =>
              have hv := number_bounds hb
              simp only [Option.getD_some]
              cases hc : number c 2147483648 with
              | none =>
                simp only [Option.getD_none]
                split
                · split <;> exact ⟨_, _, _, _, rfl⟩
                · exact ⟨_, _, _, _, rfl⟩
              | some w =>
                have hw := number_bounds hc
                simp only [Option.getD_some]
                by_cases h1 : u ≥ 1
                · rw [if_pos h1]
                  by_cases h2 : v ≥ 1
                  · rw [if_pos h2, if_neg (by omega), show decide (w ≥ 0) = true by simpa using hw.1, wrap_is (by omega), wrap_is (by omega)]
                    refine ⟨_, _, _, _, rfl, .inl ⟨rfl, rfl, ?_, rfl, hm⟩, by simp⟩
                    simp [toS]
                  · rw [if_neg h2, if_pos (by omega)]
                    exact ⟨_, _, _, _, rfl⟩
                · rw [if_neg h1, if_pos (by omega)]
                  exact ⟨_, _, _, _, rfl⟩
        · rw [show decide ((t.arcs.length : Int) < t.many) = false by simpa using hlt, no]
          cases number a t.n with
          | none => exact ⟨_, _, _, _, rfl⟩
          | some u =>
            cases number b t.n with
            | none => exact ⟨_, _, _, _, rfl⟩
            | some v =>
              cases number c 2147483648 with
              | none => exact ⟨_, _, _, _, rfl⟩
              | some w =>
                simp only
                rw [if_pos (by omega)]
                exact ⟨_, _, _, _, rfl⟩
      · rw [if_neg (by decide)]
        cases number a 0 with
        | none => exact ⟨_, _, _, _, rfl⟩
        | some u =>
          cases number b 0 with
          | none => exact ⟨_, _, _, _, rfl⟩
          | some v =>
            cases number c 2147483648 with
            | none => exact ⟨_, _, _, _, rfl⟩
            | some w =>
              simp only
              rw [if_pos (by simp)]
              exact ⟨_, _, _, _, rfl⟩
  · rw [if_neg hl, numbers_len r [t.n, t.n, 2147483648] (by simpa using hl)]
    exact ⟨_, _, _, _, rfl⟩

theorem ref_line (s : ByteArray) (hs : s.size ≤ 100000) (k : Nat) (hk : s.size + 30 < k) (n : Int) (l : List S50) (m : Int) (p : Bool) (t : St) (h : Rl n l m p t) (hll : l.length ≤ 100000) :
    LineAns (GrFn.line t (bytes s)) (l.length + 1) (postroadref05_line.f k n l m p s) := by
  obtain ⟨k, rfl⟩ : ∃ q, k = q + 3 := ⟨k - 3, by omega⟩
  unfold postroadref05_line.f
  rw [ref_words s hs _ (by omega)]
  simp only [Option.bind_some]
  cases hw : GrFn.words (bytes s) with
  | nil =>
    rw [line_nil hw, List.map_nil, if_pos (by rfl), postroadref05_line.j0, if_pos rfl]
    exact ⟨_, _, _, _, rfl, h, by omega⟩
  | cons x r =>
    have hz1 : ¬ (((mk x :: r.map mk).length : Int) = 0) := by rw [List.length_cons]; omega
    have hz2 : 0 < ((mk x :: r.map mk).length : Int) := by rw [List.length_cons]; omega
    rw [line_cons hw, List.map_cons, if_neg hz1, if_pos hz2, rd0, mk_toList]
    by_cases h99 : x = [99]
    · rw [if_pos h99, show (x == [99]) = true by simpa using h99, postroadref05_line.j0, if_pos rfl]
      exact ⟨_, _, _, _, rfl, h, by omega⟩
    · rw [if_neg h99, show (x == ([99] : List UInt8)) = false by simpa using h99]
      by_cases h112 : x = [112]
      · rw [if_pos h112, h112]
        exact line_p r k (by omega) n l m p t h
      · rw [if_neg h112]
        by_cases h97 : x = [97]
        · rw [if_pos h97, h97]
          exact line_a r k (by omega) n l m p t h hll
        · rw [if_neg h97]
          refine ⟨n, l, m, p, ?_⟩
          rw [postroadref05_line.j0, if_neg (by decide), if_pos hz2, rd0, mk_toList, if_neg h112]
          exact line_j1_no x _ k n l m p h97
end Go.Proofs.YtegikndkokemjaaDoor.PAll
