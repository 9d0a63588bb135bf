import Derived.Test.YtegikndkokemjaaDoorPAllx0
import Derived.Deep.Slices
import Derived.Deep.Fields
import Derived.ChangeSame
import Derived.Lib.SmallJoins
import Derived.OpenShut
import Derived.Test.YtegikndkokemjaaDoorPuA
import Derived.Test.YtegikndkokemjaaDoorPAllx10
import Derived.Test.YtegikndkokemjaaDoorPAllx2
namespace Go.Proofs.YtegikndkokemjaaDoor.PAll
open Go.RowKit Go.Proofs.YtegikndkokemjaaDoorW.PrintWords Go.Proofs.YtegikndkokemjaaDoorW.PrintLast Go.Proofs.YtegikndkokemjaaDoorW.PrintMore
open Go.Joins Go.ChangeShapes Go.WideShapes Go.Deep

section
variable {H : Type} {enc : TypeId × Value → H} {W : World}

/-- the fields of an arc that is read -/
def arcAt (W : World) (a : Addr) (i : Nat) (s : S50) : Prop :=
  W.cell? (a.add (i * 3)) = some (.int .i64 s.f0) ∧ W.cell? (a.add (i * 3 + 1)) = some (.int .i64 s.f1) ∧ W.cell? (a.add (i * 3 + 2)) = some (.int .i64 s.f2) ∧
  (Lit.int .i64 s.f0).wf = true ∧ (Lit.int .i64 s.f1).wf = true ∧ (Lit.int .i64 s.f2).wf = true

set_option maxRecDepth 100000 in
theorem open_arcs {fuel : Nat} {cs : List Value} {x : DataW H × List MemPlace} (h : DataW.trod enc Tryd.prog W 0 (fun _ => true) true fuel 23 cs = some x) :
    ∃ (A : Option Addr) (len cap : Nat) (l : List S50), cs = [.slice A len cap] ∧ l.length = len ∧ len ≤ cap ∧ cap ≤ maxLen ∧ Kd.C k50 W A len l ∧ ∀ s ∈ l, (Lit.int .i64 s.f0).wf = true ∧ (Lit.int .i64 s.f1).wf = true ∧ (Lit.int .i64 s.f2).wf = true := by
  rcases open_slice Tryd.underlying23 h with ⟨hcs, _⟩ | ⟨a, len, cap, m, n, D, Pl, hcs, hb, hl, hm, hmm, hx, hi⟩
  · exact ⟨none, 0, 0, [], hcs, rfl, Nat.le_refl _, by simp, ⟨rfl, by omega, fun h => absurd h (by omega)⟩, fun s hs => by cases hs⟩
  · have hm' : m = cap := by simpa using hmm
    have h3 : Tryd.prog.cellsOf 50 = 3 := by kernel_rfl
    have h1 : Tryd.prog.cellsOf 3 = 1 := by kernel_rfl
    have each : ∀ i, ∃ s : S50, i < len → arcAt W a i s := fun i => by
      by_cases hlt : i < len
      · obtain ⟨cs', hc, ht⟩ := hi i (by omega)
        rw [h3] at hc
        obtain ⟨y0, y1, y2, n', hy, hlen, f0, f1, f2⟩ := trod_struct3 Tryd.underlying50 ht
        obtain ⟨_, hcl, hat⟩ := World.cells?_some hc
        match cs', hcl with
        | [c0, c1, c2], _ =>
          simp only [h1] at f0 f1 f2
          obtain ⟨z0, e0, _, w0⟩ := DataW.trod_int Tryd.underlying3 f0
          obtain ⟨z1, e1, _, w1⟩ := DataW.trod_int Tryd.underlying3 f1
          obtain ⟨z2, e2, _, w2⟩ := DataW.trod_int Tryd.underlying3 f2
          simp at e0 e1 e2
          subst e0 e1 e2
          have g0 := hat 0 (by omega)
          have g1 := hat 1 (by omega)
          have g2 := hat 2 (by omega)
          rw [Go.Deep.add_add] at g0 g1 g2
          exact ⟨⟨z0, z1, z2⟩, fun _ => ⟨g0, g1, g2, w0, w1, w2⟩⟩
      · exact ⟨z50, fun h => absurd h hlt⟩
    obtain ⟨f, hf⟩ := Classical.axiomOfChoice each
    refine ⟨some a, len, cap, (List.range len).map f, hcs, by simp, hl, hm, ⟨by simp, ?_, fun _ => ⟨a, rfl, fun j p hj => ?_⟩⟩, fun s hs => ?_⟩
    · have : maxLen ≤ 9223372036854775807 := by decide
      omega
    · have hjl : j < len := by
        have := (List.getElem?_eq_some_iff.1 hj).1
        simpa using this
      have hp : f j = p := by
        rw [List.getElem?_map, List.getElem?_range hjl] at hj
        simpa using hj
      obtain ⟨g0, g1, g2, _⟩ := hf j hjl
      subst hp
      refine ⟨[.int .i64 (f j).f0, .int .i64 (f j).f1, .int .i64 (f j).f2], rfl, k50_mk W (f j), fun i u hu => ?_⟩
      match i, hu with
      | 0, hu => cases hu; exact g0
      | 1, hu => cases hu; exact g1
      | 2, hu => cases hu; exact g2
      | i + 3, hu => simp at hu
    · obtain ⟨j, hj, rfl⟩ := List.mem_map.1 hs
      obtain ⟨_, _, _, r⟩ := hf j (List.mem_range.1 hj)
      exact r


set_option maxRecDepth 100000 in
theorem open_map {r : Reach} {b0 : Nat} {v : Value} {d : DataW H} {p : List MemPlace} (hv : Value.okWide Tryd.prog W r b0 25 v) (h : DataW.Trod enc Tryd.prog W 0 (fun _ => true) true 25 v d p) :
    ∃ (n : Int) (A : Option Addr) (cap : Nat) (l : List S50), v = .agg #[.int .i64 n, .slice A l.length cap] ∧ (Lit.int .i64 n).wf = true ∧ l.length ≤ cap ∧ cap ≤ maxLen ∧ Kd.C k50 W A l.length l ∧ ∀ s ∈ l, (Lit.int .i64 s.f0).wf = true ∧ (Lit.int .i64 s.f1).wf = true ∧ (Lit.int .i64 s.f2).wf = true := by
  obtain ⟨v0, v1, y0, y1, n, rfl, _, _, t0, t1⟩ := open_agg2 Tryd.underlying25 (by kernel_rfl) (by kernel_rfl) hv h
  obtain ⟨z, e0, _, w0⟩ := DataW.trod_int Tryd.underlying3 t0
  obtain ⟨A, len, cap, l, e1, rfl, hl, hm, hC, hw⟩ := open_arcs t1
  simp at e0 e1
  subst e0 e1
  exact ⟨z, A, cap, l, rfl, w0, hl, hm, hC, hw⟩
end
end Go.Proofs.YtegikndkokemjaaDoor.PAll

namespace Go.Proofs.YtegikndkokemjaaDoor.PAll
open Go.RowKit Go.Proofs.YtegikndkokemjaaDoorW.PrintWords Go.Proofs.YtegikndkokemjaaDoorW.PrintLast Go.Proofs.YtegikndkokemjaaDoorW.PrintMore
open GrFn

/-- an arc that may not be -/
def badS (n : Int) (x : S50) : Bool := badArc n (ofS x)

theorem check_step (n : Int) (x : S50) (q : Option Int) : (if (mn (mn (x.f0) (x.f1)) (x.f2)) < 0 then (some 2) else (if (mx (x.f0) (x.f1)) ≥ n then (some 2) else (if (x.f2) > 2147483648 then (some 2) else q))) = if badS n x = true then some 2 else q := by
  have e : badS n x = true ↔ (x.f0 < 0 ∨ n ≤ x.f0 ∨ x.f1 < 0 ∨ n ≤ x.f1 ∨ x.f2 < 0 ∨ 2147483648 < x.f2) := by
    unfold badS badArc
    simp only [Bool.or_eq_true, decide_eq_true_eq, or_assoc]
    exact Iff.rfl
  by_cases h : badS n x = true
  · rw [if_pos h]
    rw [e] at h
    split
    · rfl
    · split
      · rfl
      · split
        · rfl
        · exfalso
          simp only [mn, mx] at *
          omega
  · rw [if_neg h]
    rw [e] at h
    rw [if_neg (by simp only [mn]; omega), if_neg (by simp only [mx]; omega), if_neg (by omega)]

theorem check_l (n : Int) (l : List S50) (hl : l.length < 4611686018427387904) : ∀ (d i k : Nat), i + d = l.length → d < k → gr_Check.l0 k l (l.length : Int) (i : Int) n l = some (if (l.drop i).any (badS n) = true then 2 else 0)
  | 0, i, k, hi, hk => by
    match k, hk with
    | k + 1, _ =>
      rw [gr_Check.l0, if_neg (by omega), List.drop_of_length_le (by omega)]
      rfl
  | d + 1, i, k, hi, hk => by
    match k, hk with
    | k + 1, hk =>
      rw [gr_Check.l0, if_pos (by omega), if_pos (by omega), if_pos (by omega), check_step, drop_rd l i (by omega), show wrap64 ((i : Int) + 1) = ((i + 1 : Nat) : Int) by rw [wrap_is (by omega)]; omega, check_l n l hl d (i + 1) k (by omega) (by omega), List.any_cons]
      cases badS n (rd_T50 l (i : Int)) <;> simp

theorem gr_check_all (n : Int) (l : List S50) (k : Nat) (hk : l.length + 1 < k) : gr_Check.f k n l = some (check ⟨n, l.map ofS⟩) := by
  obtain ⟨k, rfl⟩ : ∃ q, k = q + 1 := ⟨k - 1, by omega⟩
  unfold gr_Check.f check
  simp only [List.length_map]
  by_cases h1 : n > 16777216
  · rw [if_pos h1, gr_Check.j0, if_pos rfl, if_pos (Or.inl h1)]
  · rw [if_neg h1, gr_Check.j0]
    by_cases h2 : (l.length : Int) > 67108864
    · rw [if_pos (by simpa using h2), if_pos (by omega)]
    · rw [if_neg (by simpa using h2), if_neg (by omega : ¬ (16777216 < n ∨ 67108864 < l.length))]
      by_cases h3 : n < 0
      · rw [if_pos h3, if_pos h3]
      · rw [if_neg h3, if_neg h3]
        have := check_l n l (by omega) l.length 0 k (by omega) (by omega)
        simp only [List.drop_zero] at this
        rw [show ((0 : Nat) : Int) = 0 from rfl] at this
        rw [this, List.any_map]
        congr 1


theorem gr_check_is (n : Int) (l : List S50) (_ : l.length < 4611686018427387904) (k : Nat) (hk : l.length + 1 < k) : gr_Check.f k n l = some (check ⟨n, l.map ofS⟩) := gr_check_all n l k hk
end Go.Proofs.YtegikndkokemjaaDoor.PAll

namespace Go.Proofs.YtegikndkokemjaaDoor.PAll
open Go.RowKit Go.Proofs.YtegikndkokemjaaDoorW.PrintWords Go.Proofs.YtegikndkokemjaaDoorW.PrintLast Go.Proofs.YtegikndkokemjaaDoorW.PrintMore
open GrFn

theorem digits_lt {n : Nat} (h : n < 10) : digits n = [UInt8.ofNat (48 + n)] := by rw [digits, if_pos h]
theorem digits_ge {n : Nat} (h : ¬ n < 10) : digits n = digits (n / 10) ++ [UInt8.ofNat (48 + n % 10)] := by rw [digits, if_neg h]

theorem byte_toNat {m : Nat} (h : m < 10) : (UInt8.ofNat (48 + m)).toNat = 48 + m := by
  rw [UInt8.toNat_ofNat']; omega
theorem byte_digit {m : Nat} (h : m < 10) : isDigit (UInt8.ofNat (48 + m)) = true := by
  rw [Num.isDigit_iff, byte_toNat h]; omega

theorem num_snoc (l : List UInt8) (d : UInt8) : num (l ++ [d]) = 10 * num l + (d.toNat - 48) := by simp [num]

theorem digits_num : ∀ n, num (digits n) = n := by
  intro n
  induction n using Nat.strongRecOn with
  | ind n ih =>
    by_cases h : n < 10
    · rw [digits_lt h]
      simp only [num, List.foldl]
      rw [byte_toNat h]; omega
    · rw [digits_ge h, num_snoc, ih (n / 10) (by omega), byte_toNat (by omega)]
      omega
theorem digits_all : ∀ n, (digits n).all isDigit = true := by
  intro n
  induction n using Nat.strongRecOn with
  | ind n ih =>
    by_cases h : n < 10
    · rw [digits_lt h, List.all_cons, byte_digit h]; rfl
    · rw [digits_ge h, List.all_append, ih (n / 10) (by omega), List.all_cons, byte_digit (show n % 10 < 10 by omega)]
      rfl
theorem digits_pos (n : Nat) : 1 ≤ (digits n).length := by
  by_cases h : n < 10
  · rw [digits_lt h]; simp
  · rw [digits_ge h]; simp
theorem digits_len : ∀ (m n : Nat), n < 10 ^ (m + 1) → (digits n).length ≤ m + 1
  | 0, n, h => by rw [digits_lt (by omega)]; simp
  | m + 1, n, h => by
    by_cases h1 : n < 10
    · rw [digits_lt h1]; simp
    · rw [digits_ge h1, List.length_append]
      have : n / 10 < 10 ^ (m + 1) := by
        rw [Nat.div_lt_iff_lt_mul (by omega)]
        rw [Nat.pow_succ] at h
        exact h
      have := digits_len m (n / 10) this
      simp; omega
theorem digits_head : ∀ n, 1 ≤ n → (digits n).head? ≠ some 48 := by
  intro n
  induction n using Nat.strongRecOn with
  | ind n ih =>
    intro h1
    by_cases h : n < 10
    · rw [digits_lt h]
      simp only [List.head?_cons, ne_eq, Option.some.injEq]
      intro e
      have := congrArg UInt8.toNat e
      rw [byte_toNat h] at this
      have e2 : (48 : UInt8).toNat = 48 := rfl
      omega
    · rw [digits_ge h, List.head?_append]
      have := ih (n / 10) (by omega) (by omega)
      cases e : (digits (n / 10)).head? with
      | none =>
        have := digits_pos (n / 10)
        rw [List.head?_eq_none_iff] at e
        rw [e] at this
        simp at this
      | some d => rw [e] at this; simpa using this

theorem number_digits {n : Nat} (h : n < 10000000000) (most : Int) : number (digits n) most = if most < (n : Int) then none else some (n : Int) := by
  have hp := digits_pos n
  have hl := digits_len 9 n (by omega)
  unfold number
  rw [if_neg (by omega), if_neg, if_pos (digits_all n), digits_num]
  rintro ⟨h1, h2⟩
  by_cases h0 : n = 0
  · subst h0
    rw [digits_lt (by omega)] at h2
    simp at h2
  · exact digits_head n (by omega) h1
theorem number_nought (l : List UInt8) (h : 1 ≤ l.length) (most : Int) : number (48 :: l) most = none := by
  unfold number
  split
  · rfl
  · rw [if_pos ⟨rfl, by simp; omega⟩]
theorem number_other (l : List UInt8) (c : UInt8) (h : isDigit c = false) (most : Int) : number (l ++ [c]) most = none := by
  unfold number
  split
  · rfl
  · split
    · rfl
    · rw [if_neg (by simp [h])]

theorem append_bytes (a b : List UInt8) : (⟨a.toArray⟩ : ByteArray) ++ ⟨b.toArray⟩ = ⟨(a ++ b).toArray⟩ := by
  apply ByteArray.ext
  simp [ByteArray.data_append]
theorem one_byte (n : Int) : strOfNums [n] = ⟨[UInt8.ofNat n.toNat].toArray⟩ := rfl
theorem bytes_mk (l : List UInt8) : bytes ⟨l.toArray⟩ = l := rfl

theorem ref_digits : ∀ (m k n : Nat), n < 10 ^ (m + 1) → m < 30 → n < 9223372036854775000 → m < k → postroadref05_Digits.f k (n : Int) = some ⟨(digits n).toArray⟩
  | m, k + 1, n, h, hm, hb, hk => by
    rw [postroadref05_Digits.f]
    by_cases h1 : n < 10
    · rw [if_pos (by omega), digits_lt h1, one_byte]
      have : wrap64 (48 + (n : Int)) % 256 = ((48 + n : Nat) : Int) := by rw [wrap_is (by omega)]; omega
      rw [this]; rfl
    · rw [if_neg (by omega), digits_ge h1]
      match m, h, hk with
      | 0, h, hk => omega
      | m + 1, h, hk =>
        have hd : n / 10 < 10 ^ (m + 1) := by
          rw [Nat.div_lt_iff_lt_mul (by omega)]
          rw [Nat.pow_succ] at h
          exact h
        have e1 : wrap64 (Int.tdiv (n : Int) 10) = ((n / 10 : Nat) : Int) := by
          rw [Int.tdiv_eq_ediv_of_nonneg (by omega), wrap_is (by omega)]; omega
        have e2 : wrap64 (48 + Int.tmod (n : Int) 10) % 256 = ((48 + n % 10 : Nat) : Int) := by
          rw [Int.tmod_eq_emod_of_nonneg (by omega), wrap_is (by omega)]; omega
        rw [e1, ref_digits m k (n / 10) hd (by omega) (by omega) (by omega)]
        simp only [Option.bind_some]
        rw [e2, one_byte]
        have hl := digits_len m (n / 10) hd
        rw [if_pos]
        · rw [append_bytes]; rfl
        · show (digits (n / 10)).length + 1 ≤ _
          omega

theorem pure_numbers : postroadlaw05_GrNumbers.Pure := by
  intro a0 a1 a2 h0 h1 h2
  have b0 := bounds_u32 h0
  have b1 := bounds_u32 h1
  have b2 := bounds_u8 h2
  obtain ⟨n, rfl⟩ : ∃ n : Nat, a0 = n := ⟨a0.toNat, by omega⟩
  refine ⟨20, ?_⟩
  unfold postroadlaw05_GrNumbers.f
  rw [wrap_is (by omega), wrap_is (by omega), ref_digits 9 20 n (by omega) (by omega) (by omega) (by omega)]
  have hp := digits_pos n
  have hl := digits_len 9 n (by omega)
  have n1 : number (digits n) a1 = if a1 < (n : Int) then none else some (n : Int) := number_digits (by omega) a1
  have n2 : number (48 :: digits n) a1 = none := number_nought _ hp a1
  have e0 : (⟨#[48]⟩ : ByteArray) ++ ⟨(digits n).toArray⟩ = ⟨(48 :: digits n).toArray⟩ := append_bytes [48] (digits n)
  have s0 : (⟨(digits n).toArray⟩ : ByteArray).size = (digits n).length := rfl
  have fin : postroadlaw05_GrNumbers.j0 20 a2 ⟨(digits n).toArray⟩ false = some true := by
    rw [postroadlaw05_GrNumbers.j0]
    simp only [Bool.false_eq_true, if_false]
    have key : ∀ b : Bool, (b = true ↔ (48 ≤ a2 ∧ a2 ≤ 57)) → postroadlaw05_GrNumbers.j1 19 a2 ⟨(digits n).toArray⟩ b = some true := by
      intro b hb
      rw [postroadlaw05_GrNumbers.j1, known_is 18 (by omega)]
      cases b with
      | true => rfl
      | false =>
        have hn : ¬ (48 ≤ a2 ∧ a2 ≤ 57) := fun h => by have := hb.2 h; cases this
        simp only [Bool.false_eq_true, if_false, Option.bind_some]
        rw [one_byte]
        have hd : isDigit (UInt8.ofNat a2.toNat) = false := by
          cases e : isDigit (UInt8.ofNat a2.toNat) with
          | false => rfl
          | true =>
            exfalso
            rw [Num.isDigit_iff, UInt8.toNat_ofNat'] at e
            apply hn; omega
        rw [if_pos (by rw [s0]; show (digits n).length + 1 ≤ _; omega), append_bytes]
        have n3 := number_other (digits n) _ hd 4294967295
        unfold gr_Number.f
        rw [show number (⟨(digits n ++ [UInt8.ofNat a2.toNat]).toArray⟩ : ByteArray).data.toList 4294967295 = none from n3]
        rfl
    by_cases h48 : a2 ≥ 48
    · rw [if_pos h48]
      exact key _ (by simp; omega)
    · rw [if_neg h48]
      exact key _ (by simp; omega)
  simp only [Option.bind_some]
  unfold gr_Number.f
  simp only [Option.bind_some]
  rw [e0, s0, if_pos (by omega)]
  rw [show (⟨(48 :: digits n).toArray⟩ : ByteArray).data.toList = 48 :: digits n from rfl, n1, n2]
  simp only [Option.isSome_none, Bool.false_eq_true, if_false, Option.getD_none, if_true]
  by_cases hc : a1 < (n : Int)
  · simp only [if_pos hc, Option.isSome_none, Option.getD_none]
    rw [show decide ((n : Int) ≤ a1) = false by simp; omega]
    simpa using fin
  · simp only [if_neg hc, Option.isSome_some, Option.getD_some]
    rw [show decide ((n : Int) ≤ a1) = true by simp; omega]
    simpa using fin
end Go.Proofs.YtegikndkokemjaaDoor.PAll

namespace Go.Proofs.YtegikndkokemjaaDoor.PAll
open Go.RowKit Go.Proofs.YtegikndkokemjaaDoorW.PrintWords Go.Proofs.YtegikndkokemjaaDoorW.PrintLast Go.Proofs.YtegikndkokemjaaDoorW.PrintMore
open GrFn

theorem ref_number_l (s : ByteArray) (most : Int) (hs : s.size ≤ 10) : ∀ (d i k : Nat), i + d = s.size → d < k → ((bytes s).take i).all isDigit = true →
    postroadref05_Number.l0 k s most (num ((bytes s).take i) : Int) (i : Int) = some (if ((bytes s).drop i).all isDigit = true then (if most < (num (bytes s) : Int) then -1 else (num (bytes s) : Int)) else -1)
  | 0, i, k, hi, hk, ha => by
    match k, hk with
    | k + 1, _ =>
      rw [postroadref05_Number.l0, if_neg (by omega)]
      rw [List.drop_of_length_le (by rw [size_bytes]; omega), List.take_of_length_le (by rw [size_bytes]; omega)]
      simp only [List.all_nil, if_true]
      split <;> rfl
  | d + 1, i, k, hi, hk, ha => by
    match k, hk with
    | k + 1, hk =>
      obtain ⟨b, e1, e2, e3, _⟩ := drop_bt s i (by omega)
      rw [postroadref05_Number.l0, if_pos (by omega), if_pos (by omega), e2, e1, List.all_cons]
      by_cases hd : isDigit b = true
      · have hb := (Num.isDigit_iff b).1 hd
        rw [if_neg (by omega), if_neg (by omega), hd, Bool.true_and]
        have hall : ((bytes s).take (i + 1)).all isDigit = true := by rw [e3, List.all_append, ha]; simp [hd]
        have hn : num ((bytes s).take (i + 1)) = 10 * num ((bytes s).take i) + (b.toNat - 48) := by rw [e3]; simp [num]
        have hlt := num_lt _ hall
        have hlt2 : num ((bytes s).take (i + 1)) < 10 ^ 10 := Nat.lt_of_lt_of_le hlt (Nat.pow_le_pow_right (by omega) (by rw [List.length_take]; omega))
        have ew : wrap64 ((wrap64 ((wrap64 (10 * (num ((bytes s).take i) : Int))) + (wrap64 (b.toNat : Int)))) - 48) = (num ((bytes s).take (i + 1)) : Int) := by
          rw [hn] at hlt2 ⊢
          rw [wrap_is (n := 10 * _) (by omega), wrap_is (n := (b.toNat : Int)) (by omega), wrap_is (n := _ + _) (by omega), wrap_is (by omega)]
          omega
        rw [ew, show wrap64 ((i : Int) + 1) = ((i + 1 : Nat) : Int) by rw [wrap_is (by omega)]; omega]
        exact ref_number_l s most hs d (i + 1) k (by omega) (by omega) hall
      · have hb : ¬ (48 ≤ b.toNat ∧ b.toNat ≤ 57) := fun h => hd ((Num.isDigit_iff b).2 h)
        have hd' : isDigit b = false := by simpa using hd
        rw [hd', Bool.false_and]
        simp only [Bool.false_eq_true, if_false]
        by_cases h48 : (b.toNat : Int) < 48
        · rw [if_pos h48]
        · rw [if_neg h48, if_pos (by omega)]
theorem ref_number (s : ByteArray) (most : Int) (k : Nat) (hk : 13 < k) : postroadref05_Number.f k s most = some ((number (bytes s) most).getD (-1)) := by
  obtain ⟨k, rfl⟩ : ∃ m, k = m + 1 := ⟨k - 1, by omega⟩
  unfold postroadref05_Number.f number
  rw [size_bytes]
  by_cases h1 : (s.size : Int) < 1
  · rw [if_pos h1, if_pos (by omega), postroadref05_Number.j0, if_pos rfl]; rfl
  · rw [if_neg h1]
    by_cases h2 : (s.size : Int) > 10
    · rw [if_pos h2, if_pos (by omega), postroadref05_Number.j0, if_pos rfl]; rfl
    · rw [if_neg h2, if_pos (by omega : 0 < (s.size : Int)), if_neg (by omega : ¬ (s.size < 1 ∨ 10 < s.size))]
      obtain ⟨b, e1, e2, _, _⟩ := drop_bt s 0 (by omega)
      have e0 : (bytes s) = b :: (bytes s).drop 1 := by simpa using e1
      have eh : (bytes s).head? = some b := by rw [e0]; rfl
      rw [show ((0 : Nat) : Int) = 0 from rfl] at e2
      rw [e2, eh]
      have key := ref_number_l s most (by omega) s.size 0 k (by omega) (by omega) (by simp)
      simp only [List.drop_zero, List.take_zero] at key
      rw [show ((0 : Nat) : Int) = 0 from rfl, show ((num [] : Nat) : Int) = 0 from rfl] at key
      have fin : some (if (bytes s).all isDigit = true then (if most < (num (bytes s) : Int) then -1 else (num (bytes s) : Int)) else -1) = some ((if (bytes s).all isDigit = true then (if most < (num (bytes s) : Int) then none else some (num (bytes s) : Int)) else none).getD (-1)) := by
        split
        · split <;> rfl
        · rfl
      by_cases hb : b = 48
      · subst hb
        rw [if_pos (by decide)]
        by_cases hl : (s.size : Int) > 1
        · rw [if_pos ⟨rfl, by omega⟩, show decide ((s.size : Int) > 1) = true by simpa using hl, postroadref05_Number.j0, if_pos rfl]; rfl
        · rw [if_neg (fun h => hl (by omega)), show decide ((s.size : Int) > 1) = false by simpa using hl, postroadref05_Number.j0, if_neg (by decide), key, fin]
      · rw [if_neg (by intro h; apply hb; apply UInt8.toNat_inj.1; have : (48 : UInt8).toNat = 48 := rfl; omega), if_neg (fun h => hb (Option.some.inj h.1)), postroadref05_Number.j0, if_neg (by decide), key, fin]

end Go.Proofs.YtegikndkokemjaaDoor.PAll
