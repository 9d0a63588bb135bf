import Derived.Test.YtegikndkokemjaaDoorPu1
import Derived.Test.YtegikndkokemjaaDoorPAllx10
namespace Go.Proofs.YtegikndkokemjaaDoor.PAll
open Go.RowKit Go.Proofs.YtegikndkokemjaaDoorW.PrintWords Go.Proofs.YtegikndkokemjaaDoorW.PrintLast Go.Proofs.YtegikndkokemjaaDoorW.PrintMore
open GrFn

theorem digits_lt {n : Nat} (h : n < 10) : digits n = [UInt8.ofNat (48 + n)] := by rw [digits, if_pos h]
theorem digits_ge {n : Nat} (h : ¬ n < 10) : digits n = digits (n / 10) ++ [UInt8.ofNat (48 + n % 10)] := by rw [digits, if_neg h]

theorem byte_toNat {m : Nat} (h : m < 10) : (UInt8.ofNat (48 + m)).toNat = 48 + m := by
  rw [UInt8.toNat_ofNat']; omega
theorem byte_digit {m : Nat} (h : m < 10) : isDigit (UInt8.ofNat (48 + m)) = true := by
  rw [Num.isDigit_iff, byte_toNat h]; omega

theorem num_snoc (l : List UInt8) (d : UInt8) : num (l ++ [d]) = 10 * num l + (d.toNat - 48) := by simp [num]

theorem digits_num : ∀ n, num (digits n) = n := by
  intro n
  induction n using Nat.strongRecOn with
  | ind n ih =>
    by_cases h : n < 10
    · rw [digits_lt h]
      simp only [num, List.foldl]
      rw [byte_toNat h]; omega
    · rw [digits_ge h, num_snoc, ih (n / 10) (by omega), byte_toNat (by omega)]
      omega
theorem digits_all : ∀ n, (digits n).all isDigit = true := by
  intro n
  induction n using Nat.strongRecOn with
  | ind n ih =>
    by_cases h : n < 10
    · rw [digits_lt h, List.all_cons, byte_digit h]; rfl
    · rw [digits_ge h, List.all_append, ih (n / 10) (by omega), List.all_cons, byte_digit (show n % 10 < 10 by omega)]
      rfl
theorem digits_pos (n : Nat) : 1 ≤ (digits n).length := by
  by_cases h : n < 10
  · rw [digits_lt h]; simp
  · rw [digits_ge h]; simp
theorem digits_len : ∀ (m n : Nat), n < 10 ^ (m + 1) → (digits n).length ≤ m + 1
  | 0, n, h => by rw [digits_lt (by omega)]; simp
  | m + 1, n, h => by
    by_cases h1 : n < 10
    · rw [digits_lt h1]; simp
    · rw [digits_ge h1, List.length_append]
      have : n / 10 < 10 ^ (m + 1) := by
        rw [Nat.div_lt_iff_lt_mul (by omega)]
        rw [Nat.pow_succ] at h
        exact h
      have := digits_len m (n / 10) this
      simp; omega
theorem digits_head : ∀ n, 1 ≤ n → (digits n).head? ≠ some 48 := by
  intro n
  induction n using Nat.strongRecOn with
  | ind n ih =>
    intro h1
    by_cases h : n < 10
    · rw [digits_lt h]
      simp only [List.head?_cons, ne_eq, Option.some.injEq]
      intro e
      have := congrArg UInt8.toNat e
      rw [byte_toNat h] at this
      have e2 : (48 : UInt8).toNat = 48 := rfl
      omega
    · rw [digits_ge h, List.head?_append]
      have := ih (n / 10) (by omega) (by omega)
      cases e : (digits (n / 10)).head? with
      | none =>
        have := digits_pos (n / 10)
        rw [List.head?_eq_none_iff] at e
        rw [e] at this
        simp at this
      | some d => rw [e] at this; simpa using this

theorem number_digits {n : Nat} (h : n < 10000000000) (most : Int) : number (digits n) most = if most < (n : Int) then none else some (n : Int) := by
  have hp := digits_pos n
  have hl := digits_len 9 n (by omega)
  unfold number
  rw [if_neg (by omega), if_neg, if_pos (digits_all n), digits_num]
  rintro ⟨h1, h2⟩
  by_cases h0 : n = 0
  · subst h0
    rw [digits_lt (by omega)] at h2
    simp at h2
  · exact digits_head n (by omega) h1
theorem number_nought (l : List UInt8) (h : 1 ≤ l.length) (most : Int) : number (48 :: l) most = none := by
  unfold number
  split
  · rfl
  · rw [if_pos ⟨rfl, by simp; omega⟩]
theorem number_other (l : List UInt8) (c : UInt8) (h : isDigit c = false) (most : Int) : number (l ++ [c]) most = none := by
  unfold number
  split
  · rfl
  · split
    · rfl
    · rw [if_neg (by simp [h])]

theorem append_bytes (a b : List UInt8) : (⟨a.toArray⟩ : ByteArray) ++ ⟨b.toArray⟩ = ⟨(a ++ b).toArray⟩ := by
  apply ByteArray.ext
  simp [ByteArray.data_append]
theorem one_byte (n : Int) : strOfNums [n] = ⟨[UInt8.ofNat n.toNat].toArray⟩ := rfl
theorem bytes_mk (l : List UInt8) : bytes ⟨l.toArray⟩ = l := rfl

theorem ref_digits : ∀ (m k n : Nat), n < 10 ^ (m + 1) → m < 30 → n < 9223372036854775000 → m < k → postroadref05_Digits.f k (n : Int) = some ⟨(digits n).toArray⟩
  | m, k + 1, n, h, hm, hb, hk => by
    rw [postroadref05_Digits.f]
    by_cases h1 : n < 10
    · rw [if_pos (by omega), digits_lt h1, one_byte]
      have : wrap64 (48 + (n : Int)) % 256 = ((48 + n : Nat) : Int) := by rw [wrap_is (by omega)]; omega
      rw [this]; rfl
    · rw [if_neg (by omega), digits_ge h1]
      match m, h, hk with
      | 0, h, hk => omega
      | m + 1, h, hk =>
        have hd : n / 10 < 10 ^ (m + 1) := by
          rw [Nat.div_lt_iff_lt_mul (by omega)]
          rw [Nat.pow_succ] at h
          exact h
        have e1 : wrap64 (Int.tdiv (n : Int) 10) = ((n / 10 : Nat) : Int) := by
          rw [Int.tdiv_eq_ediv_of_nonneg (by omega), wrap_is (by omega)]; omega
        have e2 : wrap64 (48 + Int.tmod (n : Int) 10) % 256 = ((48 + n % 10 : Nat) : Int) := by
          rw [Int.tmod_eq_emod_of_nonneg (by omega), wrap_is (by omega)]; omega
        rw [e1, ref_digits m k (n / 10) hd (by omega) (by omega) (by omega)]
        simp only [Option.bind_some]
        rw [e2, one_byte]
        have hl := digits_len m (n / 10) hd
        rw [if_pos]
        · rw [append_bytes]; rfl
        · show (digits (n / 10)).length + 1 ≤ _
          omega

theorem pure_numbers : postroadlaw05_GrNumbers.Pure := by
  intro a0 a1 a2 h0 h1 h2
  have b0 := bounds_u32 h0
  have b1 := bounds_u32 h1
  have b2 := bounds_u8 h2
  obtain ⟨n, rfl⟩ : ∃ n : Nat, a0 = n := ⟨a0.toNat, by omega⟩
  refine ⟨20, ?_⟩
  unfold postroadlaw05_GrNumbers.f
  rw [wrap_is (by omega), wrap_is (by omega), ref_digits 9 20 n (by omega) (by omega) (by omega) (by omega)]
  have hp := digits_pos n
  have hl := digits_len 9 n (by omega)
  have n1 : number (digits n) a1 = if a1 < (n : Int) then none else some (n : Int) := number_digits (by omega) a1
  have n2 : number (48 :: digits n) a1 = none := number_nought _ hp a1
  have e0 : (⟨#[48]⟩ : ByteArray) ++ ⟨(digits n).toArray⟩ = ⟨(48 :: digits n).toArray⟩ := append_bytes [48] (digits n)
  have s0 : (⟨(digits n).toArray⟩ : ByteArray).size = (digits n).length := rfl
  have fin : postroadlaw05_GrNumbers.j0 20 a2 ⟨(digits n).toArray⟩ false = some true := by
    rw [postroadlaw05_GrNumbers.j0]
    simp only [Bool.false_eq_true, if_false]
    have key : ∀ b : Bool, (b = true ↔ (48 ≤ a2 ∧ a2 ≤ 57)) → postroadlaw05_GrNumbers.j1 19 a2 ⟨(digits n).toArray⟩ b = some true := by
      intro b hb
      rw [postroadlaw05_GrNumbers.j1, known_is 18 (by omega)]
      cases b with
      | true => rfl
      | false =>
        have hn : ¬ (48 ≤ a2 ∧ a2 ≤ 57) := fun h => by have := hb.2 h; cases this
        simp only [Bool.false_eq_true, if_false, Option.bind_some]
        rw [one_byte]
        have hd : isDigit (UInt8.ofNat a2.toNat) = false := by
          cases e : isDigit (UInt8.ofNat a2.toNat) with
          | false => rfl
          | true =>
            exfalso
            rw [Num.isDigit_iff, UInt8.toNat_ofNat'] at e
            apply hn; omega
        rw [if_pos (by rw [s0]; show (digits n).length + 1 ≤ _; omega), append_bytes]
        have n3 := number_other (digits n) _ hd 4294967295
        unfold gr_Number.f
        rw [show number (⟨(digits n ++ [UInt8.ofNat a2.toNat]).toArray⟩ : ByteArray).data.toList 4294967295 = none from n3]
        rfl
    by_cases h48 : a2 ≥ 48
    · rw [if_pos h48]
      exact key _ (by simp; omega)
    · rw [if_neg h48]
      exact key _ (by simp; omega)
  simp only [Option.bind_some]
  unfold gr_Number.f
  simp only [Option.bind_some]
  rw [e0, s0, if_pos (by omega)]
  rw [show (⟨(48 :: digits n).toArray⟩ : ByteArray).data.toList = 48 :: digits n from rfl, n1, n2]
  simp only [Option.isSome_none, Bool.false_eq_true, if_false, Option.getD_none, if_true]
  by_cases hc : a1 < (n : Int)
  · simp only [if_pos hc, Option.isSome_none, Option.getD_none]
    rw [show decide ((n : Int) ≤ a1) = false by simp; omega]
    simpa using fin
  · simp only [if_neg hc, Option.isSome_some, Option.getD_some]
    rw [show decide ((n : Int) ≤ a1) = true by simp; omega]
    simpa using fin
end Go.Proofs.YtegikndkokemjaaDoor.PAll
