import Derived.Test.YtegikndkokemjaaDoorPuC
import Derived.Test.YtegikndkokemjaaDoorPAllx15
namespace Go.Proofs.YtegikndkokemjaaDoor.PAll
open Go.RowKit Go.Proofs.YtegikndkokemjaaDoorW.PrintWords Go.Proofs.YtegikndkokemjaaDoorW.PrintLast Go.Proofs.YtegikndkokemjaaDoorW.PrintMore
open GrFn

theorem check_step2 (n : Int) (x : S50) (q : Option Int) : (if (x.f0) < 0 then (some 2) else (if (x.f0) ≥ n then (some 2) else (if (x.f1) < 0 then (some 2) else (if (x.f1) ≥ n then (some 2) else (if (x.f2) < 0 then (some 2) else (if (x.f2) > 2147483648 then (some 2) else q)))))) = if badS n x = true then some 2 else q := by
  have e : badS n x = true ↔ (x.f0 < 0 ∨ n ≤ x.f0 ∨ x.f1 < 0 ∨ n ≤ x.f1 ∨ x.f2 < 0 ∨ 2147483648 < x.f2) := by
    unfold badS badArc
    simp only [Bool.or_eq_true, decide_eq_true_eq, or_assoc]
    exact Iff.rfl
  by_cases h : badS n x = true
  · rw [if_pos h]
    rw [e] at h
    repeat' split
    all_goals first | rfl | (exfalso; omega)
  · rw [if_neg h]
    rw [e] at h
    rw [if_neg (by omega), if_neg (by omega), if_neg (by omega), if_neg (by omega), if_neg (by omega), if_neg (by omega)]

theorem ref_check_l (n : Int) (l : List S50) (hl : l.length < 4611686018427387904) : ∀ (d i k : Nat), i + d = l.length → d < k → postroadref05_Check.l0 k (i : Int) n l = some (if (l.drop i).any (badS n) = true then 2 else 0)
  | 0, i, k, hi, hk => by
    match k, hk with
    | k + 1, _ =>
      rw [postroadref05_Check.l0, if_neg (by omega), List.drop_of_length_le (by omega)]
      rfl
  | d + 1, i, k, hi, hk => by
    match k, hk with
    | k + 1, hk =>
      rw [postroadref05_Check.l0, if_pos (by omega), if_pos (by omega), check_step2, drop_rd l i (by omega), show wrap64 ((i : Int) + 1) = ((i + 1 : Nat) : Int) by rw [wrap_is (by omega)]; omega, ref_check_l n l hl d (i + 1) k (by omega) (by omega), List.any_cons]
      cases badS n (rd_T50 l (i : Int)) <;> simp

theorem ref_check (n : Int) (l : List S50) (k : Nat) (hk : l.length + 1 < k) : postroadref05_Check.f k n l = some (check ⟨n, l.map ofS⟩) := by
  obtain ⟨k, rfl⟩ : ∃ q, k = q + 1 := ⟨k - 1, by omega⟩
  unfold postroadref05_Check.f check
  simp only [List.length_map]
  by_cases h1 : n > 16777216
  · rw [if_pos h1, postroadref05_Check.j0, if_pos rfl, if_pos (Or.inl h1)]
  · rw [if_neg h1, postroadref05_Check.j0]
    by_cases h2 : (l.length : Int) > 67108864
    · rw [if_pos (by simpa using h2), if_pos (by omega)]
    · rw [if_neg (by simpa using h2), if_neg (by omega : ¬ (16777216 < n ∨ 67108864 < l.length))]
      by_cases h3 : n < 0
      · rw [if_pos h3, if_pos h3]
      · rw [if_neg h3, if_neg h3]
        have := ref_check_l n l (by omega) l.length 0 k (by omega) (by omega)
        simp only [List.drop_zero] at this
        rw [show ((0 : Nat) : Int) = 0 from rfl] at this
        rw [this, List.any_map]
        congr 1

theorem mk_size (l : List UInt8) : (mk l).size = l.length := rfl
theorem ref_digits_mk (k : Nat) (n : Int) (h0 : 0 ≤ n) (h1 : n < 10000000000) (hk : 20 < k) : postroadref05_Digits.f k n = some (mk (digits n.toNat)) := by
  obtain ⟨m, rfl⟩ : ∃ m : Nat, n = m := ⟨n.toNat, by omega⟩
  exact ref_digits 10 k m (by omega) (by omega) (by omega) (by omega)

theorem ref_print_l (n : Int) (l : List S50) (hl : l.length ≤ 1000) (hb : ∀ x ∈ l, 0 ≤ x.f0 ∧ x.f0 < 16777217 ∧ 0 ≤ x.f1 ∧ x.f1 < 16777217 ∧ 0 ≤ x.f2 ∧ x.f2 ≤ 2147483648) : ∀ (d i k : Nat) (t : List UInt8), i + d = l.length → d + 30 < k → t.length ≤ 100 + 100 * i →
    postroadref05_Print.l0 k (mk t) (i : Int) n l = some (mk (t ++ (l.drop i).flatMap fun x => arcLine (ofS x)), 0)
  | 0, i, k, t, hi, hk, ht => by
    match k, hk with
    | k + 1, _ =>
      rw [postroadref05_Print.l0, if_neg (by omega), List.drop_of_length_le (by omega)]
      simp
  | d + 1, i, k, t, hi, hk, ht => by
    match k, hk with
    | k + 1, hk =>
      have hx := hb (rd_T50 l (i : Int)) (by
        have h2 : rd_T50 l (i : Int) ∈ l.drop i := by rw [drop_rd l i (by omega)]; simp
        exact List.mem_of_mem_drop h2)
      rw [postroadref05_Print.l0, if_pos (by omega), if_pos (by omega), drop_rd l i (by omega)]
      generalize rd_T50 l (i : Int) = x at *
      obtain ⟨a, b, c⟩ := x
      simp only at hx ⊢
      rw [wrap_is (n := a + 1) (by omega), wrap_is (n := b + 1) (by omega), wrap_is (n := (i : Int) + 1) (by omega)]
      rw [ref_digits_mk k (a + 1) (by omega) (by omega) (by omega), ref_digits_mk k (b + 1) (by omega) (by omega) (by omega), ref_digits_mk k c (by omega) (by omega) (by omega)]
      have l1 := digits_len 9 (a + 1).toNat (by omega)
      have l2 := digits_len 9 (b + 1).toNat (by omega)
      have l3 := digits_len 9 c.toNat (by omega)
      rw [show (⟨#[97, 32]⟩ : ByteArray) = mk [97, 32] from rfl, show (⟨#[32]⟩ : ByteArray) = mk [32] from rfl, show (⟨#[10]⟩ : ByteArray) = mk [10] from rfl]
      simp only [mk_append, Option.bind_some, mk_size]
      rw [if_pos (by omega), if_pos (by simp only [List.length_append, List.length_cons, List.length_nil]; omega), if_pos (by simp only [List.length_append, List.length_cons, List.length_nil]; omega), if_pos (by simp only [List.length_append, List.length_cons, List.length_nil]; omega), if_pos (by simp only [List.length_append, List.length_cons, List.length_nil]; omega), if_pos (by simp only [List.length_append, List.length_cons, List.length_nil]; omega), if_pos (by simp only [List.length_append, List.length_cons, List.length_nil]; omega)]
      rw [show ((i : Int) + 1) = ((i + 1 : Nat) : Int) by omega, ref_print_l n l hl hb d (i + 1) k _ (by omega) (by omega) (by simp only [List.length_append, List.length_cons, List.length_nil]; omega)]
      simp [arcLine, ofS]

/-- the answer of print, as the printed functions give it -/
def ansP : List UInt8 ⊕ Int → ByteArray × Int
  | .inl t => (mk t, 0)
  | .inr e => (mk [], e)

theorem ref_print (n : Int) (l : List S50) (hl : l.length ≤ 1000) (k : Nat) (hk : l.length + 40 < k) : postroadref05_Print.f k n l = some (ansP (GrFn.print ⟨n, l.map ofS⟩)) := by
  unfold postroadref05_Print.f GrFn.print
  rw [ref_check n l k (by omega)]
  simp only [Option.bind_some]
  by_cases hq : check ⟨n, l.map ofS⟩ = 0
  · rw [if_pos hq, if_pos hq]
    obtain ⟨h0, h1, _, h3⟩ := check_ok hq
    simp only at h0 h1 h3
    rw [ref_digits_mk k n (by omega) (by omega) (by omega), ref_digits_mk k (l.length : Int) (by omega) (by omega) (by omega)]
    have l1 := digits_len 9 n.toNat (by omega)
    have l2 := digits_len 9 ((l.length : Int)).toNat (by omega)
    rw [show (⟨#[112, 32, 115, 112, 32]⟩ : ByteArray) = mk [112, 32, 115, 112, 32] from rfl, show (⟨#[32]⟩ : ByteArray) = mk [32] from rfl, show (⟨#[10]⟩ : ByteArray) = mk [10] from rfl]
    simp only [mk_append, Option.bind_some, mk_size]
    rw [if_pos (by omega), if_pos (by simp only [List.length_append, List.length_cons, List.length_nil]; omega), if_pos (by simp only [List.length_append, List.length_cons, List.length_nil]; omega), if_pos (by simp only [List.length_append, List.length_cons, List.length_nil]; omega)]
    have := ref_print_l n l hl (fun x hx => by have := h3 (ofS x) (List.mem_map.2 ⟨x, hx, rfl⟩); simp only [ofS] at this; omega) l.length 0 k ([112, 32, 115, 112, 32] ++ digits n.toNat ++ [32] ++ digits ((l.length : Int)).toNat ++ [10]) (by omega) (by omega) (by simp only [List.length_append, List.length_cons, List.length_nil]; omega)
    rw [show ((0 : Nat) : Int) = 0 from rfl] at this
    rw [this, List.drop_zero]
    simp only [ansP, text, headLine, List.length_map, List.flatMap_map, Int.toNat_natCast]
  · rw [if_neg hq, if_neg hq]
    rfl

theorem gr_print_is (k : Nat) (n : Int) (l : List S50) : gr_Print.f k n l = some (ansP (GrFn.print ⟨n, l.map ofS⟩)) := by
  unfold gr_Print.f
  cases GrFn.print ⟨n, l.map ofS⟩ <;> rfl

theorem pure_prints (n : Int) (l : List S50) (s : ByteArray) (most : Int) : postroadlaw05_GrPrints.f 400 n l s most = some true := by
  unfold postroadlaw05_GrPrints.f
  by_cases h1 : (l.length : Int) > 100
  · rw [if_pos h1, postroadlaw05_GrPrints.j0, if_pos rfl, known_is 399 (by omega)]; rfl
  · rw [if_neg h1, postroadlaw05_GrPrints.j0]
    by_cases h2 : (s.size : Int) > 100
    · rw [if_pos (by simpa using h2), known_is 399 (by omega)]; rfl
    · rw [if_neg (by simpa using h2), gr_print_is, ref_print n l (by omega) 399 (by omega), ref_number s most 399 (by omega), gr_check_all n l 399 (by omega), ref_check n l 399 (by omega), known_is 399 (by omega)]
      unfold gr_Number.f
      simp only [Option.bind_some, if_true]
      rw [show s.data.toList = bytes s from rfl]
      cases hv : number (bytes s) most with
      | none => simp [mx]
      | some v =>
        have hb := number_bounds hv
        simp only [Option.getD_some, Option.isSome_some]
        rw [if_pos (by unfold mx; omega), if_pos (by simp; omega)]
theorem postroadlaw05_GrPrints.walk (P : ∀ n l s most, postroadlaw05_GrPrints.f 400 n l s most = some true) (a : Int) (A : Option Addr) (c : Nat) (l : List S50) (s : ByteArray) (most : Int) (w : World)
    (_ : (Lit.int .i64 a).wf = true) (_ : c ≤ maxLen) (hc : l.length ≤ c) (hC : Kd.C k50 w A l.length l) (_ : ∀ s ∈ l, (Lit.int .i64 s.f0).wf = true ∧ (Lit.int .i64 s.f1).wf = true ∧ (Lit.int .i64 s.f2).wf = true)
    (_ : s.size ≤ 140737488351232) (_ : (Lit.int .i64 most).wf = true) (hT : Lib.TabIs Tryd.prog w "internal/strconv.uint64pow10" .u64 Lib.pow10Tab) :
    Calls Tryd.prog 7 #[.agg #[.int .i64 a, .slice A l.length c], .string s, .int .i64 most] w fun e w' => e = .returned (.bool true) ∧ Below w.heap.size w w' :=
  postroadlaw05_GrPrints.calls 400 a A c l s most true w hC hc hT (P a l s most)
end Go.Proofs.YtegikndkokemjaaDoor.PAll
