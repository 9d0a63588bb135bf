import Derived.Test.YtegikndkokemjaaDoorPu1
namespace Go.Proofs.YtegikndkokemjaaDoor.PAll
open Go.RowKit Go.Proofs.YtegikndkokemjaaDoorW.PrintWords Go.Proofs.YtegikndkokemjaaDoorW.PrintLast Go.Proofs.YtegikndkokemjaaDoorW.PrintMore
open GrFn

theorem drop_bt (s : ByteArray) (i : Nat) (h : i < s.size) : ∃ b : UInt8, (bytes s).drop i = b :: (bytes s).drop (i + 1) ∧ bt s (i : Int) = (b.toNat : Int) ∧ (bytes s).take (i + 1) = (bytes s).take i ++ [b] ∧ s.extract i (i + 1) = ⟨[b].toArray⟩ := by
  have h' : i < (bytes s).length := h
  have hb : s[i]'h = (bytes s)[i] := rfl
  refine ⟨(bytes s)[i], List.drop_eq_getElem_cons h', ?_, ?_, ?_⟩
  · unfold bt
    rw [dif_pos (by simpa using h)]
    rfl
  · rw [List.take_add_one, List.getElem?_eq_getElem h']; rfl
  · apply ByteArray.ext
    apply Array.toList_inj.1
    rw [Split.extract_list]
    show List.drop i (List.take (i + 1) (bytes s)) = _
    rw [List.take_add_one, List.getElem?_eq_getElem h', List.drop_append_of_le_length (by rw [List.length_take]; omega)]
    rw [List.drop_of_length_le (by rw [List.length_take]; omega)]
    rfl

theorem size_bytes (s : ByteArray) : (bytes s).length = s.size := rfl

theorem fold_lt : ∀ (l : List UInt8) (acc : Nat), l.all isDigit = true → l.foldl (fun n c => 10 * n + (c.toNat - 48)) acc < (acc + 1) * 10 ^ l.length
  | [], acc, _ => by simp
  | c :: l, acc, h => by
    rw [List.all_cons, Bool.and_eq_true] at h
    have hc := (Num.isDigit_iff c).1 h.1
    have := fold_lt l (10 * acc + (c.toNat - 48)) h.2
    rw [List.foldl_cons, List.length_cons, Nat.pow_succ, Nat.mul_comm (10 ^ l.length) 10, ← Nat.mul_assoc]
    exact Nat.lt_of_lt_of_le this (Nat.mul_le_mul_right _ (by omega))
theorem num_lt (l : List UInt8) (h : l.all isDigit = true) : num l < 10 ^ l.length := by
  have := fold_lt l 0 h
  simpa [num] using this

theorem ref_number_l (s : ByteArray) (most : Int) (hs : s.size ≤ 10) : ∀ (d i k : Nat), i + d = s.size → d < k → ((bytes s).take i).all isDigit = true →
    postroadref05_Number.l0 k s most (num ((bytes s).take i) : Int) (i : Int) = some (if ((bytes s).drop i).all isDigit = true then (if most < (num (bytes s) : Int) then -1 else (num (bytes s) : Int)) else -1)
  | 0, i, k, hi, hk, ha => by
    match k, hk with
    | k + 1, _ =>
      rw [postroadref05_Number.l0, if_neg (by omega)]
      rw [List.drop_of_length_le (by rw [size_bytes]; omega), List.take_of_length_le (by rw [size_bytes]; omega)]
      simp only [List.all_nil, if_true]
      split <;> rfl
  | d + 1, i, k, hi, hk, ha => by
    match k, hk with
    | k + 1, hk =>
      obtain ⟨b, e1, e2, e3, _⟩ := drop_bt s i (by omega)
      rw [postroadref05_Number.l0, if_pos (by omega), if_pos (by omega), e2, e1, List.all_cons]
      by_cases hd : isDigit b = true
      · have hb := (Num.isDigit_iff b).1 hd
        rw [if_neg (by omega), if_neg (by omega), hd, Bool.true_and]
        have hall : ((bytes s).take (i + 1)).all isDigit = true := by rw [e3, List.all_append, ha]; simp [hd]
        have hn : num ((bytes s).take (i + 1)) = 10 * num ((bytes s).take i) + (b.toNat - 48) := by rw [e3]; simp [num]
        have hlt := num_lt _ hall
        have hlt2 : num ((bytes s).take (i + 1)) < 10 ^ 10 := Nat.lt_of_lt_of_le hlt (Nat.pow_le_pow_right (by omega) (by rw [List.length_take]; omega))
        have ew : wrap64 ((wrap64 ((wrap64 (10 * (num ((bytes s).take i) : Int))) + (wrap64 (b.toNat : Int)))) - 48) = (num ((bytes s).take (i + 1)) : Int) := by
          rw [hn] at hlt2 ⊢
          rw [wrap_is (n := 10 * _) (by omega), wrap_is (n := (b.toNat : Int)) (by omega), wrap_is (n := _ + _) (by omega), wrap_is (by omega)]
          omega
        rw [ew, show wrap64 ((i : Int) + 1) = ((i + 1 : Nat) : Int) by rw [wrap_is (by omega)]; omega]
        exact ref_number_l s most hs d (i + 1) k (by omega) (by omega) hall
      · have hb : ¬ (48 ≤ b.toNat ∧ b.toNat ≤ 57) := fun h => hd ((Num.isDigit_iff b).2 h)
        have hd' : isDigit b = false := by simpa using hd
        rw [hd', Bool.false_and]
        simp only [Bool.false_eq_true, if_false]
        by_cases h48 : (b.toNat : Int) < 48
        · rw [if_pos h48]
        · rw [if_neg h48, if_pos (by omega)]

theorem ref_number (s : ByteArray) (most : Int) (k : Nat) (hk : 13 < k) : postroadref05_Number.f k s most = some ((number (bytes s) most).getD (-1)) := by
  obtain ⟨k, rfl⟩ : ∃ m, k = m + 1 := ⟨k - 1, by omega⟩
  unfold postroadref05_Number.f number
  rw [size_bytes]
  by_cases h1 : (s.size : Int) < 1
  · rw [if_pos h1, if_pos (by omega), postroadref05_Number.j0, if_pos rfl]; rfl
  · rw [if_neg h1]
    by_cases h2 : (s.size : Int) > 10
    · rw [if_pos h2, if_pos (by omega), postroadref05_Number.j0, if_pos rfl]; rfl
    · rw [if_neg h2, if_pos (by omega : 0 < (s.size : Int)), if_neg (by omega : ¬ (s.size < 1 ∨ 10 < s.size))]
      obtain ⟨b, e1, e2, _, _⟩ := drop_bt s 0 (by omega)
      have e0 : (bytes s) = b :: (bytes s).drop 1 := by simpa using e1
      have eh : (bytes s).head? = some b := by rw [e0]; rfl
      rw [show ((0 : Nat) : Int) = 0 from rfl] at e2
      rw [e2, eh]
      have key := ref_number_l s most (by omega) s.size 0 k (by omega) (by omega) (by simp)
      simp only [List.drop_zero, List.take_zero] at key
      rw [show ((0 : Nat) : Int) = 0 from rfl, show ((num [] : Nat) : Int) = 0 from rfl] at key
      have fin : some (if (bytes s).all isDigit = true then (if most < (num (bytes s) : Int) then -1 else (num (bytes s) : Int)) else -1) = some ((if (bytes s).all isDigit = true then (if most < (num (bytes s) : Int) then none else some (num (bytes s) : Int)) else none).getD (-1)) := by
        split
        · split <;> rfl
        · rfl
      by_cases hb : b = 48
      · subst hb
        rw [if_pos (by decide)]
        by_cases hl : (s.size : Int) > 1
        · rw [if_pos ⟨rfl, by omega⟩, show decide ((s.size : Int) > 1) = true by simpa using hl, postroadref05_Number.j0, if_pos rfl]; rfl
        · rw [if_neg (fun h => hl (by omega)), show decide ((s.size : Int) > 1) = false by simpa using hl, postroadref05_Number.j0, if_neg (by decide), key, fin]
      · rw [if_neg (by intro h; apply hb; apply UInt8.toNat_inj.1; have : (48 : UInt8).toNat = 48 := rfl; omega), if_neg (fun h => hb (Option.some.inj h.1)), postroadref05_Number.j0, if_neg (by decide), key, fin]

/-- a list of bytes as a string -/
def mk (l : List UInt8) : ByteArray := ⟨l.toArray⟩
theorem bytes_of_mk (l : List UInt8) : bytes (mk l) = l := rfl
theorem mk_bytes (s : ByteArray) : mk (bytes s) = s := rfl
theorem mk_append (a b : List UInt8) : mk a ++ mk b = mk (a ++ b) := by
  apply ByteArray.ext
  simp [mk, ByteArray.data_append]

/-- the pieces, with what has been gathered ahead of the first one -/
def cutAcc (c : UInt8) (w l : List UInt8) : List (List UInt8) := match cutAt c l with
  | [] => [w]
  | h :: t => (w ++ h) :: t
theorem cutAcc_nil (c : UInt8) (w : List UInt8) : cutAcc c w [] = [w] := by simp [cutAcc, cutAt]
theorem cutAcc_start (c : UInt8) (l : List UInt8) : cutAcc c [] l = cutAt c l := by
  unfold cutAcc
  cases h : cutAt c l with
  | nil => exact absurd h (Split.cutAt_ne c l)
  | cons a b => rfl
theorem cutAcc_at (c : UInt8) (w l : List UInt8) : cutAcc c w (c :: l) = w :: cutAcc c [] l := by
  rw [cutAcc_start]
  simp [cutAcc, cutAt]
theorem cutAcc_on (c x : UInt8) (w l : List UInt8) (h : x ≠ c) : cutAcc c w (x :: l) = cutAcc c (w ++ [x]) l := by
  unfold cutAcc
  rw [cutAt, if_neg h]
  cases cutAt c l <;> simp

theorem ref_cut_l (s : ByteArray) (c : UInt8) (hs : s.size ≤ 100000) : ∀ (d i k : Nat) (out : List ByteArray) (w : List UInt8), i + d = s.size → d < k → out.length ≤ i → w.length ≤ i →
    postroadref05_Cut.l0 k s (c.toNat : Int) out (mk w) (i : Int) = some (out ++ (cutAcc c w ((bytes s).drop i)).map mk)
  | 0, i, k, out, w, hi, hk, ho, hw => by
    match k, hk with
    | k + 1, _ =>
      rw [postroadref05_Cut.l0, if_neg (by omega), if_pos (by omega), List.drop_of_length_le (by rw [size_bytes]; omega), cutAcc_nil]
      rfl
  | d + 1, i, k, out, w, hi, hk, ho, hw => by
    match k, hk with
    | k + 1, hk =>
      obtain ⟨b, e1, e2, _, e4⟩ := drop_bt s i (by omega)
      have ew : wrap64 ((i : Int) + 1) = ((i + 1 : Nat) : Int) := by rw [wrap_is (by omega)]; omega
      rw [postroadref05_Cut.l0, if_pos (by omega), if_pos (by omega), e2, e1, ew]
      by_cases hb : b = c
      · subst hb
        rw [if_pos rfl, if_pos (by omega), cutAcc_at]
        rw [show (⟨#[]⟩ : ByteArray) = mk [] from rfl, ref_cut_l s b hs d (i + 1) k (out ++ [mk w]) [] (by omega) (by omega) (by simp; omega) (by simp)]
        simp
      · rw [if_neg (by intro h; apply hb; apply UInt8.toNat_inj.1; omega), if_pos (by omega), if_pos (by omega)]
        rw [show ((i : Int)).toNat = i from rfl, show (((i + 1 : Nat) : Int)).toNat = i + 1 from rfl, e4, show (⟨[b].toArray⟩ : ByteArray) = mk [b] from rfl]
        rw [if_pos (by show w.length + 1 ≤ _; omega), mk_append, cutAcc_on c b w _ hb]
        exact ref_cut_l s c hs d (i + 1) k out (w ++ [b]) (by omega) (by omega) (by omega) (by simp; omega)

theorem ref_cut (s : ByteArray) (c : UInt8) (n : Int) (hn : n = (c.toNat : Int)) (hs : s.size ≤ 100000) (k : Nat) (hk : s.size < k) : postroadref05_Cut.f k s n = some ((cutAt c (bytes s)).map mk) := by
  subst hn
  unfold postroadref05_Cut.f
  have := ref_cut_l s c hs s.size 0 k [] [] (by omega) hk (by simp) (by simp)
  simp only [List.nil_append, List.drop_zero] at this
  rw [cutAcc_start] at this
  exact this

theorem drop_rdOf (xs : List ByteArray) (i : Nat) (h : i < xs.length) : xs.drop i = rdOf ByteArray.empty xs i :: xs.drop (i + 1) := by
  rw [List.drop_eq_getElem_cons h]
  simp [rdOf, List.getD, h]

theorem ref_words_l (xs : List ByteArray) (hx : xs.length ≤ 200000) : ∀ (d i k : Nat) (out : List ByteArray), i + d = xs.length → d < k → out.length ≤ i →
    postroadref05_words.l0 k xs out (i : Int) = some (out ++ (xs.drop i).filter fun x => !(bytes x).isEmpty)
  | 0, i, k, out, hi, hk, ho => by
    match k, hk with
    | k + 1, _ =>
      rw [postroadref05_words.l0, if_neg (by omega), List.drop_of_length_le (by omega)]
      simp
  | d + 1, i, k, out, hi, hk, ho => by
    match k, hk with
    | k + 1, hk =>
      have ew : wrap64 ((i : Int) + 1) = ((i + 1 : Nat) : Int) := by rw [wrap_is (by omega)]; omega
      rw [postroadref05_words.l0, if_pos (by omega), if_pos (by omega), drop_rdOf xs i (by omega), toList_eq, ew]
      cases hb : bytes (rdOf ByteArray.empty xs (i : Int)) with
      | nil =>
        rw [if_pos rfl, ref_words_l xs hx d (i + 1) k out (by omega) (by omega) (by omega), List.filter_cons, hb]
        simp
      | cons x r =>
        rw [if_neg (by simp), if_pos (by omega), ref_words_l xs hx d (i + 1) k _ (by omega) (by omega) (by simp; omega), List.filter_cons, hb]
        simp

theorem cutAt_length (c : UInt8) : ∀ l, (cutAt c l).length ≤ l.length + 1
  | [] => by simp [cutAt]
  | x :: l => by
    have := cutAt_length c l
    rw [cutAt]
    split
    · simp; omega
    · split <;> (rename_i h; rw [h] at this; simp at this ⊢; try omega)

theorem ref_words (s : ByteArray) (hs : s.size ≤ 100000) (k : Nat) (hk : s.size + 1 < k) : postroadref05_words.f k s = some ((words (bytes s)).map mk) := by
  unfold postroadref05_words.f
  rw [ref_cut s 32 32 rfl hs k (by omega)]
  have hl := cutAt_length 32 (bytes s)
  rw [size_bytes] at hl
  simp only [Option.bind_some]
  have := ref_words_l ((cutAt 32 (bytes s)).map mk) (by simp; omega) ((cutAt 32 (bytes s)).map mk).length 0 k [] (by omega) (by simp; omega) (by simp)
  simp only [List.nil_append, List.drop_zero] at this
  rw [show ((0 : Nat) : Int) = 0 from rfl] at this
  rw [this]
  unfold words
  congr 1
  rw [List.filter_map]
  congr 1
end Go.Proofs.YtegikndkokemjaaDoor.PAll
