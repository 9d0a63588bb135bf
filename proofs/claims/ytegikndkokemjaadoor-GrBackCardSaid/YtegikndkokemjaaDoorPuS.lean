import Derived.Test.YtegikndkokemjaaDoorPuA
import Derived.Test.YtegikndkokemjaaDoorPAllx7s
namespace Go.Proofs.YtegikndkokemjaaDoor.PAll
open Go.RowKit Go.Proofs.YtegikndkokemjaaDoorW.PrintWords Go.Proofs.YtegikndkokemjaaDoorW.PrintLast Go.Proofs.YtegikndkokemjaaDoorW.PrintMore
open GrFn

theorem ref_same_l : ∀ (d : Nat) (xs ys : List S50) (i k : Nat) (m n : Int), xs.length = ys.length → xs.length < 4611686018427387904 → i + d = xs.length → d < k → postroadref05_Same.l0 k (i : Int) m xs n ys = some (sameL (xs.drop i) (ys.drop i))
  | 0, xs, ys, i, k, m, n, hl, hb, hi, hk => by
    match k, hk with
    | k + 1, _ =>
      rw [postroadref05_Same.l0, if_neg (by omega)]
      rw [List.drop_of_length_le (by omega)]
      rfl
  | d + 1, xs, ys, i, k, m, n, hl, hb, hi, hk => by
    match k, hk with
    | k + 1, hk =>
      rw [postroadref05_Same.l0, if_pos (by omega), if_pos (by omega), if_pos (by omega), step_eq, drop_rd xs i (by omega), drop_rd ys i (by omega)]
      rw [show wrap64 ((i : Int) + 1) = ((i + 1 : Nat) : Int) by rw [wrap_is (by omega)]; omega]
      rw [ref_same_l d xs ys (i + 1) k m n hl hb (by omega) (by omega)]
      simp only [sameL]
      cases eqS (rd_T50 xs i) (rd_T50 ys i) <;> simp
theorem ref_same_is (k : Nat) (a : Int) (l : List S50) (b : Int) (m : List S50) (hb : l.length < 4611686018427387904) (hk : l.length + 1 < k) : postroadref05_Same.f k a l b m = some (same a l b m) := by
  unfold postroadref05_Same.f same
  match k, hk with
  | k + 1, hk =>
    by_cases ha : a = b
    · rw [if_pos ha, postroadref05_Same.j0]
      by_cases hl : l.length = m.length
      · rw [if_neg (by simp [hl])]
        have := ref_same_l l.length l m 0 k a b hl hb (by omega) (by omega)
        simp only [List.drop_zero] at this
        rw [show ((0 : Nat) : Int) = 0 from rfl] at this
        rw [this]; simp [ha, hl]
      · rw [if_pos (by simp; omega)]
        simp [hl]
    · rw [if_neg ha, postroadref05_Same.j0, if_pos rfl]
      simp [ha]

end Go.Proofs.YtegikndkokemjaaDoor.PAll
