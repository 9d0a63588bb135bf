import Derived.Test.YtegikndkokemjaaDoorPAllx5
import Derived.KernelRfl
namespace Go.Proofs.YtegikndkokemjaaDoor.PAll
open Go.RowKit Go.Proofs.YtegikndkokemjaaDoorW.PrintWords Go.Proofs.YtegikndkokemjaaDoorW.PrintLast Go.Proofs.YtegikndkokemjaaDoorW.PrintMore
open GrFn
theorem wrap_is {n : Int} (h : -9223372036854775808 ≤ n ∧ n ≤ 9223372036854775807) : wrap64 n = n := by unfold wrap64; omega
/-- two arcs alike -/
def eqS (x y : S50) : Bool := x.f0 == y.f0 && x.f1 == y.f1 && x.f2 == y.f2
def sameL : List S50 → List S50 → Bool
  | x :: xs, y :: ys => eqS x y && sameL xs ys
  | _, _ => true
/-- two maps alike -/
def same (a : Int) (l : List S50) (b : Int) (m : List S50) : Bool := a == b && l.length == m.length && sameL l m
theorem eqS_iff (x y : S50) : eqS x y = true ↔ x = y := by
  cases x; cases y
  simp [eqS]
  constructor
  · rintro ⟨⟨rfl, rfl⟩, rfl⟩; exact ⟨rfl, rfl, rfl⟩
  · rintro ⟨rfl, rfl, rfl⟩; exact ⟨⟨rfl, rfl⟩, rfl⟩
theorem sameL_refl : ∀ l, sameL l l = true
  | [] => rfl
  | x :: l => by simp [sameL, sameL_refl l, (eqS_iff x x).2 rfl]
theorem same_refl (a : Int) (l : List S50) : same a l a l = true := by simp [same, sameL_refl]
theorem sameL_eq : ∀ l m : List S50, l.length = m.length → sameL l m = true → l = m
  | [], [], _, _ => rfl
  | x :: l, y :: m, h, e => by
    simp only [sameL, Bool.and_eq_true] at e
    rw [(eqS_iff x y).1 e.1, sameL_eq l m (by simpa using h) e.2]
theorem same_iff (a : Int) (l : List S50) (b : Int) (m : List S50) : same a l b m = true ↔ a = b ∧ l = m := by
  constructor
  · intro h
    simp only [same, Bool.and_eq_true, beq_iff_eq] at h
    exact ⟨h.1.1, sameL_eq _ _ h.1.2 h.2⟩
  · rintro ⟨rfl, rfl⟩
    exact same_refl _ _
theorem drop_rd (xs : List S50) (i : Nat) (h : i < xs.length) : xs.drop i = rd_T50 xs i :: xs.drop (i + 1) := by
  rw [List.drop_eq_getElem_cons h]
  simp [rd_T50, List.getD, h]
theorem step_eq (x y : S50) : (!(x.f0 == y.f0) || (!(x.f1 == y.f1) || !(x.f2 == y.f2))) = !eqS x y := by
  simp [eqS, Bool.not_and, Bool.or_assoc]
theorem gr_same_l : ∀ (d : Nat) (xs ys : List S50) (i k : Nat) (m : Int), xs.length = ys.length → xs.length < 4611686018427387904 → i + d = xs.length → d < k → gr_Same.l0 k xs (xs.length : Int) (i : Int) m ys = some (sameL (xs.drop i) (ys.drop i))
  | 0, xs, ys, i, k, m, hl, hb, hi, hk => by
    match k, hk with
    | k + 1, _ =>
      rw [gr_Same.l0, if_neg (by omega)]
      rw [List.drop_of_length_le (by omega)]
      rfl
  | d + 1, xs, ys, i, k, m, hl, hb, hi, hk => by
    match k, hk with
    | k + 1, hk =>
      rw [gr_Same.l0, if_pos (by omega), if_pos (by omega), if_pos (by omega), if_pos (by omega), step_eq, drop_rd xs i (by omega), drop_rd ys i (by omega)]
      rw [show wrap64 ((i : Int) + 1) = ((i + 1 : Nat) : Int) by rw [wrap_is (by omega)]; omega]
      rw [gr_same_l d xs ys (i + 1) k m hl hb (by omega) (by omega)]
      simp only [sameL]
      cases eqS (rd_T50 xs i) (rd_T50 ys i) <;> simp
theorem gr_same_is (k : Nat) (a : Int) (l : List S50) (b : Int) (m : List S50) (hb : l.length < 4611686018427387904) (hk : l.length + 1 < k) : gr_Same.f k a l b m = some (same a l b m) := by
  unfold gr_Same.f same
  match k, hk with
  | k + 1, hk =>
    by_cases ha : a = b
    · rw [if_pos ha, gr_Same.j0]
      by_cases hl : l.length = m.length
      · rw [if_neg (by simp [hl])]
        have := gr_same_l l.length l m 0 k b hl hb (by omega) (by omega)
        simp only [List.drop_zero] at this
        rw [show ((0 : Nat) : Int) = 0 from rfl] at this
        rw [this]; simp [ha, hl]
      · rw [if_pos (by simp; omega)]
        simp [hl]
    · rw [if_neg ha, gr_Same.j0, if_pos rfl]
      simp [ha]
/-- what is known: the chapter's example -/
theorem known_is (k : Nat) (hk : 2 < k) : postroadlaw05_known.f k = some true := by
  have h1 : gr_Parse.f k (⟨#[112, 32, 115, 112, 32, 50, 32, 49, 10, 97, 32, 49, 32, 50, 32, 55, 10]⟩ : ByteArray) = some (2, [(⟨0, 1, 7⟩ : S50)], 0, 0) := by
    unfold gr_Parse.f
    rw [if_pos (by decide)]
    have : GrFn.parse (bytes (⟨#[112, 32, 115, 112, 32, 50, 32, 49, 10, 97, 32, 49, 32, 50, 32, 55, 10]⟩ : ByteArray)) = .inl ⟨2, [⟨0, 1, 7⟩]⟩ := by kernel_rfl
    rw [this]
    rfl
  unfold postroadlaw05_known.f
  rw [h1]
  simp only [Option.bind_some]
  rw [gr_same_is k _ _ _ _ (by decide) (by simpa using hk), same_refl]
  rfl
theorem drop_bt (s : ByteArray) (i : Nat) (h : i < s.size) : ∃ b : UInt8, (bytes s).drop i = b :: (bytes s).drop (i + 1) ∧ bt s (i : Int) = (b.toNat : Int) ∧ (bytes s).take (i + 1) = (bytes s).take i ++ [b] ∧ s.extract i (i + 1) = ⟨[b].toArray⟩ := by
  have h' : i < (bytes s).length := h
  have hb : s[i]'h = (bytes s)[i] := rfl
  refine ⟨(bytes s)[i], List.drop_eq_getElem_cons h', ?_, ?_, ?_⟩
  · unfold bt
    rw [dif_pos (by simpa using h)]
    rfl
  · rw [List.take_add_one, List.getElem?_eq_getElem h']; rfl
  · apply ByteArray.ext
    apply Array.toList_inj.1
    rw [Split.extract_list]
    show List.drop i (List.take (i + 1) (bytes s)) = _
    rw [List.take_add_one, List.getElem?_eq_getElem h', List.drop_append_of_le_length (by rw [List.length_take]; omega)]
    rw [List.drop_of_length_le (by rw [List.length_take]; omega)]
    rfl
theorem size_bytes (s : ByteArray) : (bytes s).length = s.size := rfl
theorem fold_lt : ∀ (l : List UInt8) (acc : Nat), l.all isDigit = true → l.foldl (fun n c => 10 * n + (c.toNat - 48)) acc < (acc + 1) * 10 ^ l.length
  | [], acc, _ => by simp
  | c :: l, acc, h => by
    rw [List.all_cons, Bool.and_eq_true] at h
    have hc := (Num.isDigit_iff c).1 h.1
    have := fold_lt l (10 * acc + (c.toNat - 48)) h.2
    rw [List.foldl_cons, List.length_cons, Nat.pow_succ, Nat.mul_comm (10 ^ l.length) 10, ← Nat.mul_assoc]
    exact Nat.lt_of_lt_of_le this (Nat.mul_le_mul_right _ (by omega))
theorem num_lt (l : List UInt8) (h : l.all isDigit = true) : num l < 10 ^ l.length := by
  have := fold_lt l 0 h
  simpa [num] using this
/-- a list of bytes as a string -/
def mk (l : List UInt8) : ByteArray := ⟨l.toArray⟩
theorem bytes_of_mk (l : List UInt8) : bytes (mk l) = l := rfl
theorem mk_bytes (s : ByteArray) : mk (bytes s) = s := rfl
theorem mk_append (a b : List UInt8) : mk a ++ mk b = mk (a ++ b) := by
  apply ByteArray.ext
  simp [mk, ByteArray.data_append]
/-- the pieces, with what has been gathered ahead of the first one -/
def cutAcc (c : UInt8) (w l : List UInt8) : List (List UInt8) := match cutAt c l with
  | [] => [w]
  | h :: t => (w ++ h) :: t
theorem cutAcc_nil (c : UInt8) (w : List UInt8) : cutAcc c w [] = [w] := by simp [cutAcc, cutAt]
theorem cutAcc_start (c : UInt8) (l : List UInt8) : cutAcc c [] l = cutAt c l := by
  unfold cutAcc
  cases h : cutAt c l with
  | nil => exact absurd h (Split.cutAt_ne c l)
  | cons a b => rfl
theorem cutAcc_at (c : UInt8) (w l : List UInt8) : cutAcc c w (c :: l) = w :: cutAcc c [] l := by
  rw [cutAcc_start]
  simp [cutAcc, cutAt]
theorem cutAcc_on (c x : UInt8) (w l : List UInt8) (h : x ≠ c) : cutAcc c w (x :: l) = cutAcc c (w ++ [x]) l := by
  unfold cutAcc
  rw [cutAt, if_neg h]
  cases cutAt c l <;> simp
theorem drop_rdOf (xs : List ByteArray) (i : Nat) (h : i < xs.length) : xs.drop i = rdOf ByteArray.empty xs i :: xs.drop (i + 1) := by
  rw [List.drop_eq_getElem_cons h]
  simp [rdOf, List.getD, h]
theorem cutAt_length (c : UInt8) : ∀ l, (cutAt c l).length ≤ l.length + 1
  | [] => by simp [cutAt]
  | x :: l => by
    have := cutAt_length c l
    rw [cutAt]
    split
    · simp; omega
    · split <;> (rename_i h; rw [h] at this; simp at this ⊢; try omega)
theorem number_bounds {l : List UInt8} {most v : Int} (h : number l most = some v) : 0 ≤ v ∧ v < 10000000000 := by
  unfold number at h
  split at h
  · cases h
  · rename_i hl
    split at h
    · cases h
    · split at h
      · rename_i ha
        split at h
        · cases h
        · cases h
          have h1 := num_lt l ha
          have h2 : num l < 10 ^ 10 := Nat.lt_of_lt_of_le h1 (Nat.pow_le_pow_right (by omega) (by omega))
          omega
      · cases h
theorem rd0 (x : ByteArray) (l : List ByteArray) : rdOf ByteArray.empty (x :: l) 0 = x := rfl
theorem rd1 (x y : ByteArray) (l : List ByteArray) : rdOf ByteArray.empty (x :: y :: l) 1 = y := rfl
theorem rd2 (x y z : ByteArray) (l : List ByteArray) : rdOf ByteArray.empty (x :: y :: z :: l) 2 = z := rfl
theorem rd3 (x y z u : ByteArray) (l : List ByteArray) : rdOf ByteArray.empty (x :: y :: z :: u :: l) 3 = u := rfl
theorem mk_toList (x : List UInt8) : (mk x).toList = x := by rw [toList_eq]; rfl
theorem numbers2 (a b : List UInt8) (m1 m2 : Int) : numbers [a, b] [m1, m2] = match number a m1 with
    | none => none
    | some u => match number b m2 with
      | none => none
      | some v => some [u, v] := by
  rw [numbers_cons, numbers_cons]
  cases number a m1 with
  | none => rfl
  | some u => cases number b m2 <;> rfl
theorem numbers3 (a b c : List UInt8) (m1 m2 m3 : Int) : numbers [a, b, c] [m1, m2, m3] = match number a m1 with
    | none => none
    | some u => match number b m2 with
      | none => none
      | some v => match number c m3 with
        | none => none
        | some w => some [u, v, w] := by
  rw [numbers_cons, numbers2]
  cases number a m1 with
  | none => rfl
  | some u =>
    cases number b m2 with
    | none => rfl
    | some v => cases number c m3 <;> rfl
theorem size_cons (t : St) (x : List UInt8) (ys : List (List UInt8)) : GrFn.size t (x :: ys) = if t.many ≥ 0 then none else if x = [115, 112] then
      match numbers ys [16777216, 67108864] with
      | some [a, b] => some { t with n := a, many := b }
      | _ => none
    else none := rfl
/-- a parse's answer as the printed functions give it -/
def ansR : M ⊕ Int → Int × List S50 × Int × Int
  | .inl m => (m.n, m.arcs.map toS, 0, 0)
  | .inr j => (0, [], 12, j)
/-- what follows the lines -/
def close (c : Nat) : St ⊕ Int → M ⊕ Int
  | .inr j => .inr j
  | .inl u => if u.many = (u.arcs.length : Int) then .inl ⟨u.n, u.arcs⟩ else .inr (c + 1)
theorem drop_rdL (xs : List (List UInt8)) (i : Nat) (h : i < xs.length) : ∃ x, xs.drop i = x :: xs.drop (i + 1) ∧ rdOf ByteArray.empty (xs.map mk) (i : Int) = mk x ∧ x ∈ xs := by
  refine ⟨xs[i], List.drop_eq_getElem_cons h, ?_, List.getElem_mem h⟩
  simp [rdOf, List.getD, h]
theorem lines_cons (t : St) (x : List UInt8) (l : List (List UInt8)) (i : Int) : GrFn.lines t (x :: l) i = match GrFn.line t x with
    | none => .inr (i + 1)
    | some u => GrFn.lines u l (i + 1) := rfl
theorem cutAt_short (c : UInt8) : ∀ (l : List UInt8), ∀ x ∈ cutAt c l, x.length ≤ l.length
  | [], x, hx => by simp [cutAt] at hx; simp [hx]
  | y :: l, x, hx => by
    have ih := cutAt_short c l
    rw [cutAt] at hx
    split at hx
    · rcases List.mem_cons.1 hx with rfl | h
      · simp
      · have := ih x h; simp; omega
    · split at hx
      · rename_i h
        exact absurd h (Split.cutAt_ne c l)
      · rename_i h' t' h
        rw [h] at ih
        rcases List.mem_cons.1 hx with rfl | hx
        · have := ih h' (by simp); simp; omega
        · have := ih x (by simp [hx]); simp; omega
theorem parse_strip (l : List UInt8) : GrFn.parse l = if (strip l).1 = [] ∧ (strip l).2 = false then .inr 1 else close (cutAt 10 (strip l).1).length (GrFn.lines ⟨0, [], -1⟩ (cutAt 10 (strip l).1) 0) := by
  unfold GrFn.parse close
  rfl
theorem gr_parse_is (k : Nat) (s : ByteArray) (hs : s.size ≤ 2147483648) : gr_Parse.f k s = some (ansR (GrFn.parse (bytes s))) := by
  unfold gr_Parse.f
  rw [if_pos hs]
  cases GrFn.parse (bytes s) <;> rfl
theorem lines_arcs : ∀ (l : List (List UInt8)) (t u : St) (i : Int), GrFn.lines t l i = .inl u → u.arcs.length ≤ t.arcs.length + l.length
  | [], t, u, i, h => by cases h; simp
  | x :: l, t, u, i, h => by
    rw [lines_cons] at h
    cases hq : GrFn.line t x with
    | none => rw [hq] at h; cases h
    | some v =>
      rw [hq] at h
      have ih := lines_arcs l v u (i + 1) h
      have hv : v.arcs.length ≤ t.arcs.length + 1 := by
        cases hw : GrFn.words x with
        | nil => rw [line_nil hw] at hq; cases hq; omega
        | cons y r =>
          rw [line_cons hw] at hq
          split at hq
          · cases hq; omega
          · split at hq
            · cases r with
              | nil => cases hq
              | cons y ys =>
                rw [size_cons] at hq
                split at hq
                · cases hq
                · split at hq
                  · split at hq
                    · cases hq; simp
                    · cases hq
                  · cases hq
            · split at hq
              · unfold GrFn.arc at hq
                split at hq
                · split at hq
                  · cases hq
                  · cases hq; simp
                · cases hq
              · cases hq
      simp only [List.length_cons]
      omega
theorem parse_arcs (l : List UInt8) : (ansR (GrFn.parse l)).2.1.length ≤ l.length + 1 := by
  rw [parse_strip]
  split
  · simp [ansR]
  · have hl : (strip l).1.length ≤ l.length := by unfold strip; split <;> simp
    have hc := cutAt_length 10 (strip l).1
    cases h : GrFn.lines ⟨0, [], -1⟩ (cutAt 10 (strip l).1) 0 with
    | inr j => simp [close, ansR]
    | inl u =>
      have := lines_arcs _ _ _ _ h
      simp only [close]
      split
      · simp [ansR] at this ⊢; omega
      · simp [ansR]
end Go.Proofs.YtegikndkokemjaaDoor.PAll
