import Derived.Test.YtegikndkokemjaaDoorPAllx7
import Derived.KernelRfl
namespace Go.Proofs.YtegikndkokemjaaDoor.PAll
open Go.RowKit Go.Proofs.YtegikndkokemjaaDoorW.PrintWords Go.Proofs.YtegikndkokemjaaDoorW.PrintLast Go.Proofs.YtegikndkokemjaaDoorW.PrintMore
open GrFn

theorem wrap_is {n : Int} (h : -9223372036854775808 ≤ n ∧ n ≤ 9223372036854775807) : wrap64 n = n := by unfold wrap64; omega

/-- two arcs alike -/
def eqS (x y : S50) : Bool := x.f0 == y.f0 && x.f1 == y.f1 && x.f2 == y.f2
def sameL : List S50 → List S50 → Bool
  | x :: xs, y :: ys => eqS x y && sameL xs ys
  | _, _ => true
/-- two maps alike -/
def same (a : Int) (l : List S50) (b : Int) (m : List S50) : Bool := a == b && l.length == m.length && sameL l m

theorem eqS_iff (x y : S50) : eqS x y = true ↔ x = y := by
  cases x; cases y
  simp [eqS]
  constructor
  · rintro ⟨⟨rfl, rfl⟩, rfl⟩; exact ⟨rfl, rfl, rfl⟩
  · rintro ⟨rfl, rfl, rfl⟩; exact ⟨⟨rfl, rfl⟩, rfl⟩
theorem sameL_refl : ∀ l, sameL l l = true
  | [] => rfl
  | x :: l => by simp [sameL, sameL_refl l, (eqS_iff x x).2 rfl]
theorem same_refl (a : Int) (l : List S50) : same a l a l = true := by simp [same, sameL_refl]
theorem sameL_eq : ∀ l m : List S50, l.length = m.length → sameL l m = true → l = m
  | [], [], _, _ => rfl
  | x :: l, y :: m, h, e => by
    simp only [sameL, Bool.and_eq_true] at e
    rw [(eqS_iff x y).1 e.1, sameL_eq l m (by simpa using h) e.2]
theorem same_iff (a : Int) (l : List S50) (b : Int) (m : List S50) : same a l b m = true ↔ a = b ∧ l = m := by
  constructor
  · intro h
    simp only [same, Bool.and_eq_true, beq_iff_eq] at h
    exact ⟨h.1.1, sameL_eq _ _ h.1.2 h.2⟩
  · rintro ⟨rfl, rfl⟩
    exact same_refl _ _

theorem drop_rd (xs : List S50) (i : Nat) (h : i < xs.length) : xs.drop i = rd_T50 xs i :: xs.drop (i + 1) := by
  rw [List.drop_eq_getElem_cons h]
  simp [rd_T50, List.getD, h]

theorem step_eq (x y : S50) : (!(x.f0 == y.f0) || (!(x.f1 == y.f1) || !(x.f2 == y.f2))) = !eqS x y := by
  simp [eqS, Bool.not_and, Bool.or_assoc]

theorem gr_same_l : ∀ (d : Nat) (xs ys : List S50) (i k : Nat) (m : Int), xs.length = ys.length → xs.length < 4611686018427387904 → i + d = xs.length → d < k → gr_Same.l0 k xs (xs.length : Int) (i : Int) m ys = some (sameL (xs.drop i) (ys.drop i))
  | 0, xs, ys, i, k, m, hl, hb, hi, hk => by
    match k, hk with
    | k + 1, _ =>
      rw [gr_Same.l0, if_neg (by omega)]
      rw [List.drop_of_length_le (by omega)]
      rfl
  | d + 1, xs, ys, i, k, m, hl, hb, hi, hk => by
    match k, hk with
    | k + 1, hk =>
      rw [gr_Same.l0, if_pos (by omega), if_pos (by omega), if_pos (by omega), if_pos (by omega), step_eq, drop_rd xs i (by omega), drop_rd ys i (by omega)]
      rw [show wrap64 ((i : Int) + 1) = ((i + 1 : Nat) : Int) by rw [wrap_is (by omega)]; omega]
      rw [gr_same_l d xs ys (i + 1) k m hl hb (by omega) (by omega)]
      simp only [sameL]
      cases eqS (rd_T50 xs i) (rd_T50 ys i) <;> simp

theorem ref_same_l : ∀ (d : Nat) (xs ys : List S50) (i k : Nat) (m n : Int), xs.length = ys.length → xs.length < 4611686018427387904 → i + d = xs.length → d < k → postroadref05_Same.l0 k (i : Int) m xs n ys = some (sameL (xs.drop i) (ys.drop i))
  | 0, xs, ys, i, k, m, n, hl, hb, hi, hk => by
    match k, hk with
    | k + 1, _ =>
      rw [postroadref05_Same.l0, if_neg (by omega)]
      rw [List.drop_of_length_le (by omega)]
      rfl
  | d + 1, xs, ys, i, k, m, n, hl, hb, hi, hk => by
    match k, hk with
    | k + 1, hk =>
      rw [postroadref05_Same.l0, if_pos (by omega), if_pos (by omega), if_pos (by omega), step_eq, drop_rd xs i (by omega), drop_rd ys i (by omega)]
      rw [show wrap64 ((i : Int) + 1) = ((i + 1 : Nat) : Int) by rw [wrap_is (by omega)]; omega]
      rw [ref_same_l d xs ys (i + 1) k m n hl hb (by omega) (by omega)]
      simp only [sameL]
      cases eqS (rd_T50 xs i) (rd_T50 ys i) <;> simp

theorem gr_same_is (k : Nat) (a : Int) (l : List S50) (b : Int) (m : List S50) (hb : l.length < 4611686018427387904) (hk : l.length + 1 < k) : gr_Same.f k a l b m = some (same a l b m) := by
  unfold gr_Same.f same
  match k, hk with
  | k + 1, hk =>
    by_cases ha : a = b
    · rw [if_pos ha, gr_Same.j0]
      by_cases hl : l.length = m.length
      · rw [if_neg (by simp [hl])]
        have := gr_same_l l.length l m 0 k b hl hb (by omega) (by omega)
        simp only [List.drop_zero] at this
        rw [show ((0 : Nat) : Int) = 0 from rfl] at this
        rw [this]; simp [ha, hl]
      · rw [if_pos (by simp; omega)]
        simp [hl]
    · rw [if_neg ha, gr_Same.j0, if_pos rfl]
      simp [ha]

theorem ref_same_is (k : Nat) (a : Int) (l : List S50) (b : Int) (m : List S50) (hb : l.length < 4611686018427387904) (hk : l.length + 1 < k) : postroadref05_Same.f k a l b m = some (same a l b m) := by
  unfold postroadref05_Same.f same
  match k, hk with
  | k + 1, hk =>
    by_cases ha : a = b
    · rw [if_pos ha, postroadref05_Same.j0]
      by_cases hl : l.length = m.length
      · rw [if_neg (by simp [hl])]
        have := ref_same_l l.length l m 0 k a b hl hb (by omega) (by omega)
        simp only [List.drop_zero] at this
        rw [show ((0 : Nat) : Int) = 0 from rfl] at this
        rw [this]; simp [ha, hl]
      · rw [if_pos (by simp; omega)]
        simp [hl]
    · rw [if_neg ha, postroadref05_Same.j0, if_pos rfl]
      simp [ha]

/-- what is known: the chapter's example -/
theorem known_is (k : Nat) (hk : 2 < k) : postroadlaw05_known.f k = some true := by
  have h1 : gr_Parse.f k (⟨#[112, 32, 115, 112, 32, 50, 32, 49, 10, 97, 32, 49, 32, 50, 32, 55, 10]⟩ : ByteArray) = some (2, [(⟨0, 1, 7⟩ : S50)], 0, 0) := by
    unfold gr_Parse.f
    rw [if_pos (by decide)]
    have : GrFn.parse (bytes (⟨#[112, 32, 115, 112, 32, 50, 32, 49, 10, 97, 32, 49, 32, 50, 32, 55, 10]⟩ : ByteArray)) = .inl ⟨2, [⟨0, 1, 7⟩]⟩ := by kernel_rfl
    rw [this]
    rfl
  unfold postroadlaw05_known.f
  rw [h1]
  simp only [Option.bind_some]
  rw [gr_same_is k _ _ _ _ (by decide) (by simpa using hk), same_refl]
  rfl
end Go.Proofs.YtegikndkokemjaaDoor.PAll
