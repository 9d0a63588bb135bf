import Derived.Test.YtfkejflmhidnaaaGreatQFPostroadref07Of
import Derived.Test.YtfkejflmhidnaaaGreatQFPostroadref05Check
import Derived.Test.YtfkejflmhidnaaaGreatQFPostroadref06Counts
import Derived.Test.YtfkejflmhidnaaaGreatQFPostroadref08New
import Derived.Test.YtfkejflmhidnaaaGreatQNeP
set_option linter.all false
namespace Go.Proofs.YtfkejflmhidnaaaGreat.PAll
open RowKit YtfkejflmhidnaaaGreatW.PrintWords YtfkejflmhidnaaaGreatW.PrintLast YtfkejflmhidnaaaGreatW.PrintMore
open Hp hiding Good
def Ends {α : Type} (f : Nat → Option α) (r : α) : Prop := ∃ k, ∀ m, k ≤ m → f m = some r
theorem Ends.pure {α : Type} (r : α) : Ends (fun _ => some r) r := ⟨0, fun _ _ => rfl⟩
theorem Ends.of {α : Type} {f g : Nat → Option α} {r : α} (h : Ends g r) (e : ∀ k, f k = g k) : Ends f r := by
  obtain ⟨k, h⟩ := h
  exact ⟨k, fun m hm => (e m).trans (h m hm)⟩
theorem Ends.succ {α : Type} {f g : Nat → Option α} {r : α} (h : Ends g r) (e : ∀ k, f (k + 1) = g k) : Ends f r := by
  obtain ⟨k, h⟩ := h
  refine ⟨k + 1, fun m hm => ?_⟩
  obtain ⟨n, rfl⟩ : ∃ n, m = n + 1 := ⟨m - 1, by omega⟩
  exact (e n).trans (h n (by omega))
theorem Ends.bind {α β : Type} {f : Nat → Option α} {g : α → Nat → Option β} {a : α} {r : β} (h : Ends f a) (hg : Ends (g a) r) : Ends (fun k => (f k).bind fun x => g x k) r := by
  obtain ⟨k, h⟩ := h
  obtain ⟨k', h'⟩ := hg
  refine ⟨max k k', fun m hm => ?_⟩
  show (f m).bind _ = _
  rw [h m (by omega)]
  exact h' m (by omega)
theorem Ends.at {α : Type} {f : Nat → Option α} {r : α} (h : Ends f r) : ∃ k, f k = some r := by
  obtain ⟨k, h⟩ := h
  exact ⟨k, h k (Nat.le_refl _)⟩
structure ArcOk (n : Nat) (a : S85) : Prop where
  f0 : 0 ≤ a.f0
  f1 : a.f0 < n
  t0 : 0 ≤ a.f1
  t1 : a.f1 < n
  w0 : 0 ≤ a.f2
  w1 : a.f2 ≤ 2147483648
structure MapOk (n : Nat) (A : List S85) : Prop where
  n0 : 1 ≤ n
  n1 : n ≤ 12
  few : A.length ≤ 40
  arcs : ∀ a ∈ A, ArcOk n a
theorem rd79_mem {A : List S85} {i : Nat} (h : i < A.length) : rd_T85 A (i : Int) ∈ A := by
  have e : rd_T85 A (i : Int) = A[i] := by simp [rd_T85, List.getD, h]
  rw [e]; exact List.getElem_mem _
theorem mem79 {A : List S85} {a : S85} (h : a ∈ A) : ∃ i : Nat, i < A.length ∧ rd_T85 A (i : Int) = a := by
  obtain ⟨i, hi, e⟩ := List.getElem_of_mem h
  exact ⟨i, hi, by simp [rd_T85, List.getD, hi, e]⟩
theorem w64n {i : Nat} (h : i < 1000000) : wrap64 ((i : Int) + 1) = ((i + 1 : Nat) : Int) := by unfold wrap64; omega
theorem part_ok (x : Int) (n : Nat) (h : 0 < n) (hn : n ≤ 2147483649) : ∃ r, postroadref06_part.f x (n : Int) = some r ∧ 0 ≤ r ∧ r < n := by
  unfold postroadref06_part.f
  rw [if_neg (by omega)]
  have h1 : Int.tmod x n < n := Int.tmod_lt_of_pos x (by omega)
  have h2 : -(n : Int) < Int.tmod x n := Int.lt_tmod_of_pos x (by omega)
  by_cases hneg : Int.tmod x n < 0
  · rw [if_pos hneg]
    have : wrap64 (Int.tmod x n + n) = Int.tmod x n + n := by unfold wrap64; omega
    exact ⟨_, by rw [this], by omega, by omega⟩
  · rw [if_neg hneg]
    exact ⟨_, rfl, by omega, by omega⟩
theorem of_loop (n : Nat) (h0 : 1 ≤ n) (h1 : n ≤ 12) (l : List S85) : ∀ (m i : Nat) (acc : List S85), 40 - i ≤ m → i ≤ 40 → acc.length = i → (∀ a ∈ acc, ArcOk n a) →
    ∃ A, Ends (fun k => postroadref06_Of.l0 k (n : Int) l (i : Int) (n : Int) acc) ((n : Int), A) ∧ MapOk n A := fun m => by
  induction m with
  | zero =>
    intro i acc hm hi hl ha
    obtain rfl : i = 40 := by omega
    refine ⟨acc, ?_, h0, h1, by omega, ha⟩
    refine Ends.succ (g := fun k => postroadref06_Of.j1 k (n : Int) l ((40 : Nat) : Int) false (n : Int) acc) ?_ (fun k => ?_)
    · exact Ends.succ (Ends.pure _) (fun k => by simp only [postroadref06_Of.j1]; rw [if_neg (by decide)])
    · simp only [postroadref06_Of.l0]
      split <;> rfl
  | succ m ih =>
    intro i acc hm hi hl ha
    by_cases hlt : i < l.length ∧ i < 40
    · obtain ⟨p0, e0, a0, a1⟩ := part_ok (rd_T85 l (i : Int)).f0 n (by omega) (by omega)
      obtain ⟨p1, e1, b0, b1⟩ := part_ok (rd_T85 l (i : Int)).f1 n (by omega) (by omega)
      obtain ⟨p2, e2, c0, c1⟩ := part_ok (rd_T85 l (i : Int)).f2 2147483649 (by omega) (by omega)
      obtain ⟨A, hA, hok⟩ := ih (i + 1) (acc ++ [⟨p0, p1, p2⟩]) (by omega) (by omega) (by rw [List.length_append, hl]; rfl) (fun a h => by
        rcases List.mem_append.1 h with h | h
        · exact ha a h
        · simp only [List.mem_singleton] at h
          subst h
          exact ⟨a0, a1, b0, b1, c0, by simp only; omega⟩)
      refine ⟨A, ?_, hok⟩
      refine Ends.succ (g := fun k => postroadref06_Of.j1 k (n : Int) l (i : Int) true (n : Int) acc) ?_ (fun k => ?_)
      · refine Ends.succ hA (fun k => ?_)
        simp only [postroadref06_Of.j1]
        rw [if_pos (by first | rfl | trivial), if_pos (by omega), if_pos (by omega), e0, e1, show ((2147483649 : Int)) = ((2147483649 : Nat) : Int) from rfl, e2]
        simp only [Option.bind_some]
        rw [if_pos (by omega), w64n (by omega)]
      · simp only [postroadref06_Of.l0]
        rw [if_pos (by omega), show decide ((i : Int) < 40) = true from by simp; omega]
    · refine ⟨acc, ?_, h0, h1, by omega, ha⟩
      refine Ends.succ (g := fun k => postroadref06_Of.j1 k (n : Int) l (i : Int) false (n : Int) acc) ?_ (fun k => ?_)
      · exact Ends.succ (Ends.pure _) (fun k => by simp only [postroadref06_Of.j1]; rw [if_neg (by decide)])
      · simp only [postroadref06_Of.l0]
        by_cases h : (i : Int) < (l.length : Int)
        · rw [if_pos h, show decide ((i : Int) < 40) = false from by simp; omega]
        · rw [if_neg h]
theorem of_ok (a0 : Int) (l : List S85) : ∃ (n : Nat) (A : List S85), Ends (fun k => postroadref07_Of.f k a0 l) ((n : Int), A) ∧ MapOk n A := by
  obtain ⟨n, hn, n0, n1⟩ : ∃ n : Nat, mx 1 (mn a0 12) = n ∧ 1 ≤ n ∧ n ≤ 12 := by
    refine ⟨(mx 1 (mn a0 12)).toNat, ?_, ?_, ?_⟩ <;> (simp only [mx, mn]; (repeat' split) <;> omega)
  obtain ⟨A, hA, hok⟩ := of_loop n n0 n1 l 40 0 [] (by omega) (by omega) rfl (fun a h => by simp at h)
  refine ⟨n, A, ?_, hok⟩
  refine (Ends.bind (g := fun bt k => some (bt.1, bt.2)) (hA.of (f := fun k => postroadref06_Of.f k a0 l) (fun k => ?_)) (Ends.pure _)).of (fun k => rfl)
  unfold postroadref06_Of.f
  rw [hn]
  rfl
theorem check_loop (n : Nat) (A : List S85) (hA : ∀ a ∈ A, ArcOk n a) (hl : A.length ≤ 40) : ∀ (m i : Nat), A.length - i ≤ m → i ≤ A.length → Ends (fun k => postroadref05_Check.l0 k (i : Int) (n : Int) A) 0 := fun m => by
  induction m with
  | zero =>
    intro i hm hi
    refine Ends.succ (Ends.pure 0) (fun k => ?_)
    simp only [postroadref05_Check.l0]
    rw [if_neg (by omega)]
  | succ m ih =>
    intro i hm hi
    by_cases h : i < A.length
    · have ha := hA _ (rd79_mem h)
      obtain ⟨a0, a1, a2, a3, a4, a5⟩ := ha
      refine Ends.succ (ih (i + 1) (by omega) (by omega)) (fun k => ?_)
      simp only [postroadref05_Check.l0]
      rw [if_pos (by omega), if_pos (by omega), if_neg (by omega), if_neg (by omega), if_neg (by omega), if_neg (by omega), if_neg (by omega), if_neg (by omega), w64n (by omega)]
    · refine Ends.succ (Ends.pure 0) (fun k => ?_)
      simp only [postroadref05_Check.l0]
      rw [if_neg (by omega)]
theorem check_ok {n : Nat} {A : List S85} (h : MapOk n A) : Ends (fun k => postroadref05_Check.f k (n : Int) A) 0 := by
  have hn := h.n1
  have hf := h.few
  refine (Ends.succ (f := fun k => postroadref05_Check.j0 k false (n : Int) A) (check_loop n A h.arcs h.few A.length 0 (by omega) (by omega)) (fun k => ?_)).of (fun k => ?_)
  · simp only [postroadref05_Check.j0]
    rw [if_neg (by decide), if_neg (by omega)]
    rfl
  · unfold postroadref05_Check.f
    rw [if_neg (by omega), show decide ((A.length : Int) > 67108864) = false from by simp; omega]
def BeatsAt (A : List S85) (i j : Nat) : Prop := (rd_T85 A (j : Int)).f0 = (rd_T85 A (i : Int)).f0 ∧ (rd_T85 A (j : Int)).f1 = (rd_T85 A (i : Int)).f1 ∧ ((rd_T85 A (j : Int)).f2 < (rd_T85 A (i : Int)).f2 ∨ (rd_T85 A (j : Int)).f2 = (rd_T85 A (i : Int)).f2 ∧ j < i)
def Counts (A : List S85) (i : Nat) : Prop := (rd_T85 A (i : Int)).f0 ≠ (rd_T85 A (i : Int)).f1 ∧ ∀ j, j < A.length → ¬ BeatsAt A i j
theorem counts_loop (n : Nat) (A : List S85) (hl : A.length ≤ 40) (i : Nat) : ∀ (m j : Nat), A.length - j ≤ m → j ≤ A.length →
    ∃ b : Bool, Ends (fun k => postroadref06_counts.l0 k (i : Int) (j : Int) (n : Int) A (rd_T85 A (i : Int)).f0 (rd_T85 A (i : Int)).f1 (rd_T85 A (i : Int)).f2) b ∧ (b = true ↔ ∀ q, j ≤ q → q < A.length → ¬ BeatsAt A i q) := fun m => by
  induction m with
  | zero =>
    intro j hm hj
    refine ⟨true, Ends.succ (Ends.pure true) (fun k => ?_), by constructor <;> (intro _; first | rfl | (intro q _ _; omega))⟩
    simp only [postroadref06_counts.l0]
    rw [if_neg (by omega)]
  | succ m ih =>
    intro j hm hj
    by_cases h : j < A.length
    · obtain ⟨b, hb, hq⟩ := ih (j + 1) (by omega) (by omega)
      by_cases hbe : BeatsAt A i j
      · refine ⟨false, Ends.succ (Ends.pure false) (fun k => ?_), by constructor <;> intro hh; cases hh; exact absurd hbe (hh j (Nat.le_refl _) h)⟩
        obtain ⟨e0, e1, e2⟩ := hbe
        simp only [postroadref06_counts.l0]
        rw [if_pos (by omega), if_pos (by omega), if_pos e0, if_pos e1]
        rcases e2 with e2 | ⟨e2, e3⟩
        · rw [if_pos e2]
        · rw [if_neg (by omega), if_pos e2, if_pos (by omega)]
      · refine ⟨b, Ends.succ hb (fun k => ?_), hq.trans ⟨fun hh q h1 h2 => ?_, fun hh q h1 h2 => hh q (by omega) h2⟩⟩
        · simp only [postroadref06_counts.l0]
          rw [if_pos (by omega), if_pos (by omega), w64n (by omega)]
          by_cases e0 : (rd_T85 A (j : Int)).f0 = (rd_T85 A (i : Int)).f0
          · rw [if_pos e0]
            by_cases e1 : (rd_T85 A (j : Int)).f1 = (rd_T85 A (i : Int)).f1
            · rw [if_pos e1, if_neg (fun h2 => hbe ⟨e0, e1, .inl h2⟩)]
              by_cases e2 : (rd_T85 A (j : Int)).f2 = (rd_T85 A (i : Int)).f2
              · rw [if_pos e2, if_neg (fun h3 => hbe ⟨e0, e1, .inr ⟨e2, by omega⟩⟩)]
              · rw [if_neg e2]
            · rw [if_neg e1]
          · rw [if_neg e0]
        · rcases Nat.eq_or_lt_of_le h1 with rfl | h3
          · exact hbe
          · exact hh q (by omega) h2
    · refine ⟨true, Ends.succ (Ends.pure true) (fun k => ?_), by constructor <;> (intro _; first | rfl | (intro q _ _; omega))⟩
      simp only [postroadref06_counts.l0]
      rw [if_neg (by omega)]
theorem counts_ok (n : Nat) (A : List S85) (hl : A.length ≤ 40) (i : Nat) (hi : i < A.length) : ∃ b : Bool, Ends (fun k => postroadref06_counts.f k (n : Int) A (i : Int)) b ∧ (b = true ↔ Counts A i) := by
  by_cases he : (rd_T85 A (i : Int)).f0 = (rd_T85 A (i : Int)).f1
  · refine ⟨false, (Ends.pure false).of (fun k => ?_), by constructor <;> intro hh; cases hh; exact absurd he hh.1⟩
    unfold postroadref06_counts.f
    rw [if_pos (by omega), if_pos (by omega), if_pos he]
  · obtain ⟨b, hb, hq⟩ := counts_loop n A hl i A.length 0 (by omega) (by omega)
    refine ⟨b, hb.of (fun k => ?_), hq.trans ⟨fun hh => ⟨he, fun j hj => hh j (by omega) hj⟩, fun hh q _ h2 => hh.2 q h2⟩⟩
    unfold postroadref06_counts.f
    rw [if_pos (by omega), if_pos (by omega), if_neg he]
    rfl
theorem out_loop (n : Nat) (A : List S85) (K : List Int) (hl : A.length ≤ 40) (hk : K.length = A.length) (v : Int) : ∀ (m i : Nat) (acc : List S75), K.length - i ≤ m → i ≤ K.length → acc.length ≤ i →
    ∃ r : List S75, Ends (fun k => postroadref06_Out.l0 k v acc (i : Int) (n : Int) A K) r ∧ r.length ≤ K.length ∧ ∀ y, y ∈ r ↔ y ∈ acc ∨ ∃ q : Nat, i ≤ q ∧ q < K.length ∧ rd K (q : Int) = 1 ∧ (rd_T85 A (q : Int)).f0 = v ∧ y = ⟨(rd_T85 A (q : Int)).f1, (rd_T85 A (q : Int)).f2, (q : Int)⟩ := fun m => by
  induction m with
  | zero =>
    intro i acc hm hi ha
    refine ⟨acc, Ends.succ (Ends.pure _) (fun k => ?_), by omega, fun y => ⟨.inl, fun h => h.elim id (fun ⟨q, h1, h2, _⟩ => by omega)⟩⟩
    simp only [postroadref06_Out.l0]
    rw [if_neg (by omega)]
  | succ m ih =>
    intro i acc hm hi ha
    by_cases h : i < K.length
    · by_cases h1 : rd K (i : Int) = 1
      · by_cases h2 : (rd_T85 A (i : Int)).f0 = v
        · obtain ⟨r, hr, hlr, hmr⟩ := ih (i + 1) (insE acc ⟨(rd_T85 A (i : Int)).f1, (rd_T85 A (i : Int)).f2, (i : Int)⟩) (by omega) (by omega) (by rw [insE_len]; omega)
          refine ⟨r, Ends.succ (Ends.bind (g := fun t184 k => postroadref06_Out.l0 k v t184 (wrap64 ((i : Int) + 1)) (n : Int) A K) (a := insE acc ⟨(rd_T85 A (i : Int)).f1, (rd_T85 A (i : Int)).f2, (i : Int)⟩) (f := fun k => postroadref06_put.f k acc ((rd_T85 A (i : Int)).f1) ((rd_T85 A (i : Int)).f2) (i : Int)) ((Ends.pure _).of (fun k => ?_)) (hr.of (fun k => by rw [w64n (by omega)]))) (fun k => ?_), hlr, fun y => (hmr y).trans ?_⟩
          · unfold postroadref06_put.f
            rw [if_pos (by omega)]
          · simp only [postroadref06_Out.l0]
            rw [if_pos (by omega), if_pos (by omega), if_pos h1, if_pos (by omega), if_pos h2]
          · rw [mem_insE]
            constructor
            · rintro ((h3 | h3) | ⟨q, h3, r⟩)
              · exact .inr ⟨i, Nat.le_refl _, h, h1, h2, h3⟩
              · exact .inl h3
              · exact .inr ⟨q, by omega, r⟩
            · rintro (h3 | ⟨q, h3, h4, h5, h6, h7⟩)
              · exact .inl (.inr h3)
              · rcases Nat.eq_or_lt_of_le h3 with rfl | h8
                · exact .inl (.inl h7)
                · exact .inr ⟨q, by omega, h4, h5, h6, h7⟩
        · obtain ⟨r, hr, hlr, hmr⟩ := ih (i + 1) acc (by omega) (by omega) (by omega)
          refine ⟨r, Ends.succ hr (fun k => ?_), hlr, fun y => (hmr y).trans ?_⟩
          · simp only [postroadref06_Out.l0]
            rw [if_pos (by omega), if_pos (by omega), if_pos h1, if_pos (by omega), if_neg h2, w64n (by omega)]
          · constructor
            · rintro (h3 | ⟨q, h3, r⟩)
              · exact .inl h3
              · exact .inr ⟨q, by omega, r⟩
            · rintro (h3 | ⟨q, h3, h4, h5, h6, h7⟩)
              · exact .inl h3
              · rcases Nat.eq_or_lt_of_le h3 with rfl | h8
                · exact absurd h6 h2
                · exact .inr ⟨q, by omega, h4, h5, h6, h7⟩
      · obtain ⟨r, hr, hlr, hmr⟩ := ih (i + 1) acc (by omega) (by omega) (by omega)
        refine ⟨r, Ends.succ hr (fun k => ?_), hlr, fun y => (hmr y).trans ?_⟩
        · simp only [postroadref06_Out.l0]
          rw [if_pos (by omega), if_pos (by omega), if_neg h1, w64n (by omega)]
        · constructor
          · rintro (h3 | ⟨q, h3, r⟩)
            · exact .inl h3
            · exact .inr ⟨q, by omega, r⟩
          · rintro (h3 | ⟨q, h3, h4, h5, h6, h7⟩)
            · exact .inl h3
            · rcases Nat.eq_or_lt_of_le h3 with rfl | h8
              · exact absurd h5 h1
              · exact .inr ⟨q, by omega, h4, h5, h6, h7⟩
    · refine ⟨acc, Ends.succ (Ends.pure _) (fun k => ?_), by omega, fun y => ⟨.inl, fun h => h.elim id (fun ⟨q, h1, h2, _⟩ => by omega)⟩⟩
      simp only [postroadref06_Out.l0]
      rw [if_neg (by omega)]
theorem out_ok (n : Nat) (A : List S85) (K : List Int) (hl : A.length ≤ 40) (hk : K.length = A.length) (v : Int) : ∃ r : List S75, Ends (fun k => postroadref06_Out.f k (n : Int) A K v) r ∧ r.length ≤ K.length ∧ ∀ y, y ∈ r ↔ ∃ q : Nat, q < K.length ∧ rd K (q : Int) = 1 ∧ (rd_T85 A (q : Int)).f0 = v ∧ y = ⟨(rd_T85 A (q : Int)).f1, (rd_T85 A (q : Int)).f2, (q : Int)⟩ := by
  obtain ⟨r, hr, hlr, hmr⟩ := out_loop n A K hl hk v K.length 0 [] (by omega) (by omega) (by simp)
  refine ⟨r, hr, hlr, fun y => (hmr y).trans ?_⟩
  constructor
  · rintro (h | ⟨q, _, r⟩)
    · simp at h
    · exact ⟨q, r⟩
  · rintro ⟨q, r⟩
    exact .inr ⟨q, by omega, r⟩
def wOf (v : Int) (e : S75) : S156 := ⟨v, e.f0, ⟨e.f1, -1, e.f2⟩⟩
theorem new8_in (n : Nat) (A : List S85) (K : List Int) (v : Int) (outs : List S75) (ho : outs.length ≤ 40) (inn : List Int) (lost : List Int) (R : Int × List Int × List S156 × List Int) : ∀ (m j : Nat) (L : List S156), outs.length - j ≤ m → j ≤ outs.length → L.length + outs.length ≤ 100000 + j →
    Ends (fun k => postroadref08_New.l0 k (wrap64 (v + 1)) (n : Int) A K (n : Int) inn (L ++ (outs.drop j).map (wOf v)) lost) R → Ends (fun k => postroadref08_New.l1 k v outs (j : Int) (n : Int) A K (n : Int) inn L lost) R := fun m => by
  induction m with
  | zero =>
    intro j L hm hj hL h
    refine Ends.succ h (fun k => ?_)
    simp only [postroadref08_New.l1]
    rw [if_neg (by omega), List.drop_of_length_le (by omega)]
    simp
  | succ m ih =>
    intro j L hm hj hL h
    by_cases hlt : j < outs.length
    · refine Ends.succ (ih (j + 1) (L ++ [wOf v (rd_T75 outs (j : Int))]) (by omega) (by omega) (by rw [List.length_append, List.length_singleton]; omega) (h.of (fun k => ?_))) (fun k => ?_)
      · have e : rd_T75 outs (j : Int) = outs[j] := by simp [rd_T75, List.getD, hlt]
        rw [List.drop_eq_getElem_cons hlt, List.map_cons, e, List.append_assoc]
        rfl
      · simp only [postroadref08_New.l1]
        rw [if_pos (by omega), if_pos (by omega), if_pos (by omega), w64n (by omega)]
        rfl
    · refine Ends.succ h (fun k => ?_)
      simp only [postroadref08_New.l1]
      rw [if_neg (by omega), List.drop_of_length_le (by omega)]
      simp
theorem new8_loop (n : Nat) (A : List S85) (K : List Int) (hn : n ≤ 12) (hl : A.length ≤ 40) (hk : K.length = A.length) : ∀ (m v : Nat) (L : List S156), n - v ≤ m → v ≤ n → L.length ≤ v * 40 →
    ∃ Lf : List S156, Ends (fun k => postroadref08_New.l0 k (v : Int) (n : Int) A K (n : Int) (List.replicate v 1) L (List.replicate v 0)) ((n : Int), List.replicate n 1, Lf, List.replicate n 0) ∧ Lf.length ≤ n * 40 ∧
      ∀ y, y ∈ Lf ↔ y ∈ L ∨ ∃ q : Nat, q < K.length ∧ rd K (q : Int) = 1 ∧ v ≤ (rd_T85 A (q : Int)).f0 ∧ (rd_T85 A (q : Int)).f0 < n ∧ y = ⟨(rd_T85 A (q : Int)).f0, (rd_T85 A (q : Int)).f1, ⟨(rd_T85 A (q : Int)).f2, -1, (q : Int)⟩⟩ := fun m => by
  induction m with
  | zero =>
    intro v L hm hv hL
    obtain rfl : v = n := by omega
    refine ⟨L, Ends.succ (Ends.pure _) (fun k => ?_), hL, fun y => ⟨.inl, fun h => h.elim id (fun ⟨q, _, _, h3, h4, _⟩ => by omega)⟩⟩
    simp only [postroadref08_New.l0]
    rw [if_neg (by omega)]
  | succ m ih =>
    intro v L hm hv hL
    by_cases h : v < n
    · obtain ⟨r, hr, hlr, hmr⟩ := out_ok n A K hl hk (v : Int)
      obtain ⟨Lf, hLf, hll, hmm⟩ := ih (v + 1) (L ++ r.map (wOf v)) (by omega) (by omega) (by rw [List.length_append, List.length_map, Nat.add_mul]; omega)
      have hv40 : v * 40 ≤ 480 := by omega
      refine ⟨Lf, ?_, hll, fun y => (hmm y).trans ?_⟩
      · refine Ends.succ (Ends.bind (g := fun t196 k => (postroadref08_New.l1 k (v : Int) t196 0 (n : Int) A K (n : Int) (List.replicate v 1 ++ [1]) L (List.replicate v 0 ++ [0]))) hr (new8_in n A K (v : Int) r (by omega) _ _ _ r.length 0 L (by omega) (by omega) (by omega) (hLf.of (fun k => ?_)))) (fun k => ?_)
        · rw [w64n (by omega), List.drop_zero, ← List.replicate_succ', ← List.replicate_succ']
        · simp only [postroadref08_New.l0]
          rw [if_pos (by omega), if_pos (by rw [List.length_replicate]; omega), if_pos (by rw [List.length_replicate]; omega)]
      · rw [List.mem_append, List.mem_map]
        constructor
        · rintro ((h3 | ⟨e, he, rfl⟩) | ⟨q, h3, h4, h5, r⟩)
          · exact .inl h3
          · obtain ⟨q, q1, q2, q3, rfl⟩ := (hmr e).1 he
            exact .inr ⟨q, q1, q2, by omega, by omega, by rw [q3]; rfl⟩
          · exact .inr ⟨q, h3, h4, by omega, r⟩
        · rintro (h3 | ⟨q, h3, h4, h5, h6, h7⟩)
          · exact .inl (.inl h3)
          · by_cases e : (rd_T85 A (q : Int)).f0 = v
            · exact .inl (.inr ⟨_, (hmr _).2 ⟨q, h3, h4, e, rfl⟩, by rw [h7, e]; rfl⟩)
            · exact .inr ⟨q, h3, h4, by omega, h6, h7⟩
    · obtain rfl : v = n := by omega
      refine ⟨L, Ends.succ (Ends.pure _) (fun k => ?_), hL, fun y => ⟨.inl, fun h => h.elim id (fun ⟨q, _, _, h3, h4, _⟩ => by omega)⟩⟩
      simp only [postroadref08_New.l0]
      rw [if_neg (by omega)]
theorem new8_ok {n : Nat} {A : List S85} {K : List Int} (h : MapOk n A) (hk : K.length = A.length) : ∃ L : List S156, Ends (fun k => postroadref08_New.f k (n : Int) A K) ((n : Int), List.replicate n 1, L, List.replicate n 0) ∧ L.length ≤ 480 ∧
    ∀ y, y ∈ L ↔ ∃ q : Nat, q < A.length ∧ rd K (q : Int) = 1 ∧ y = ⟨(rd_T85 A (q : Int)).f0, (rd_T85 A (q : Int)).f1, ⟨(rd_T85 A (q : Int)).f2, -1, (q : Int)⟩⟩ := by
  have h1 := h.n1
  obtain ⟨L, hL, hl, hm⟩ := new8_loop n A K h.n1 h.few hk n 0 [] (by omega) (by omega) (by simp)
  refine ⟨L, hL, by omega, fun y => (hm y).trans ?_⟩
  constructor
  · rintro (h | ⟨q, q1, q2, _, _, r⟩)
    · simp at h
    · exact ⟨q, by omega, q2, r⟩
  · rintro ⟨q, q1, q2, r⟩
    have ha := h.arcs _ (rd79_mem q1)
    exact .inr ⟨q, by omega, q2, by have := ha.f0; omega, ha.f1, r⟩
def EA (A : List S85) (a b w : Int) : Prop := ∃ x ∈ A, x.f0 = a ∧ x.f1 = b ∧ x.f2 = w
theorem counts_best {A : List S85} (hl : A.length ≤ 40) (hw : ∀ q : Nat, q < A.length → 0 ≤ (rd_T85 A (q : Int)).f2) : ∀ (m q : Nat), q < A.length → (rd_T85 A (q : Int)).f0 ≠ (rd_T85 A (q : Int)).f1 → (rd_T85 A (q : Int)).f2.toNat * 41 + q ≤ m →
    ∃ p : Nat, p < A.length ∧ Counts A p ∧ (rd_T85 A (p : Int)).f0 = (rd_T85 A (q : Int)).f0 ∧ (rd_T85 A (p : Int)).f1 = (rd_T85 A (q : Int)).f1 ∧ (rd_T85 A (p : Int)).f2 ≤ (rd_T85 A (q : Int)).f2 := fun m => by
  induction m with
  | zero =>
    intro q hq hne hm
    obtain rfl : q = 0 := by omega
    refine ⟨0, hq, ⟨hne, fun j hj hb => ?_⟩, rfl, rfl, Int.le_refl _⟩
    have := hw j hj
    have := hw 0 hq
    rcases hb.2.2 with h | h <;> omega
  | succ m ih =>
    intro q hq hne hm
    by_cases hc : Counts A q
    · exact ⟨q, hq, hc, rfl, rfl, Int.le_refl _⟩
    · have : ∃ j, j < A.length ∧ BeatsAt A q j := by
        apply Classical.byContradiction
        intro hn
        exact hc ⟨hne, fun j hj hb => hn ⟨j, hj, hb⟩⟩
      obtain ⟨j, hj, e0, e1, e2⟩ := this
      have h1 := hw j hj
      have h2 := hw q hq
      obtain ⟨p, hp, c, f0, f1, f2⟩ := ih j hj (by rw [e0, e1]; exact hne) (by rcases e2 with h | h <;> omega)
      exact ⟨p, hp, c, f0.trans e0, f1.trans e1, by rcases e2 with h | h <;> omega⟩
theorem counts_one {A : List S85} {p q : Nat} (hp : p < A.length) (hq : q < A.length) (cp : Counts A p) (cq : Counts A q) (e0 : (rd_T85 A (p : Int)).f0 = (rd_T85 A (q : Int)).f0) (e1 : (rd_T85 A (p : Int)).f1 = (rd_T85 A (q : Int)).f1) : p = q := by
  have h1 := cp.2 q hq
  have h2 := cq.2 p hp
  unfold BeatsAt at h1 h2
  by_cases e : p = q
  · exact e
  · exfalso
    rcases Int.lt_trichotomy (rd_T85 A (p : Int)).f2 (rd_T85 A (q : Int)).f2 with h | h | h
    · exact h2 ⟨e0, e1, .inl h⟩
    · rcases Nat.lt_or_ge p q with h3 | h3
      · exact h2 ⟨e0, e1, .inr ⟨h, h3⟩⟩
      · exact h1 ⟨e0.symm, e1.symm, .inr ⟨h.symm, by omega⟩⟩
    · exact h1 ⟨e0.symm, e1.symm, .inl h⟩
theorem rowB_all {f : Int → Bool} : ∀ n : Nat, (∀ x : Nat, x < n → f (x : Int) = true) → (rowB n f).length = n
  | 0, _ => by simp [rowB]
  | n + 1, h => by
    rw [rowB_yes (h n (by omega)), List.length_append, rowB_all n (fun x hx => h x (by omega))]
    rfl
theorem rd_rep {n : Nat} {a : Int} {x : Nat} (h : x < n) : rd (List.replicate n a) (x : Int) = a := by
  simp [rd, List.getD, h]
theorem BI.start {n : Nat} {A : List S85} {K : List Int} (h : MapOk n A) (hk : ∀ q : Nat, q < A.length → (rd K (q : Int) = 1 ↔ Counts A q)) {L : List S156} (hl : L.length ≤ 480)
    (hm : ∀ y, y ∈ L ↔ ∃ q : Nat, q < A.length ∧ rd K (q : Int) = 1 ∧ y = ⟨(rd_T85 A (q : Int)).f0, (rd_T85 A (q : Int)).f1, ⟨(rd_T85 A (q : Int)).f2, -1, (q : Int)⟩⟩) :
    BI n (EA A) 0 ⟨n, List.replicate n 1, L, List.replicate n 0⟩ (List.replicate n 0) [] := by
  have hin : ∀ x : Int, 0 ≤ x → x < n → isP ⟨n, List.replicate n 1, L, List.replicate n 0⟩ x = true := fun x x0 x1 => by
    obtain ⟨x, rfl⟩ := Int.eq_ofNat_of_zero_le x0
    unfold isP
    simp only
    rw [rd_rep (by omega)]
    simp; omega
  have ha := fun q hq => h.arcs _ (rd79_mem (A := A) (i := q) hq)
  refine ⟨⟨rfl, by simp, fun y hy => ?_, fun x hx y hy e0 e1 => ?_⟩, ?_, by simp, by simp only; omega, by simp, fun v hv hv2 => ?_, fun u v hu hv h1 => ?_, fun x hx => by simp at hx, fun y hy => ?_, List.Pairwise.nil, fun y hy => ?_, fun x hx => by simp at hx, fun rk' H' ext hyp s u d s0 s1 u0 u1 hw => ?_⟩
  · obtain ⟨q, hq, h1, rfl⟩ := (hm y).1 hy
    have := ha q hq
    exact ⟨hin _ this.f0 this.f1, hin _ this.t0 this.t1, ((hk q hq).1 h1).1, this.w0, by simp only [wmR]; exact this.w1⟩
  · obtain ⟨p, hp, h1, rfl⟩ := (hm x).1 hx
    obtain ⟨q, hq, h2, rfl⟩ := (hm y).1 hy
    obtain rfl := counts_one hp hq ((hk p hp).1 h1) ((hk q hq).1 h2) e0 e1
    rfl
  · unfold placesP
    rw [rowB_all n (fun x hx => by simp only; rw [rd_rep hx]; rfl)]
    rfl
  · rw [hin v (by omega) (by omega)] at hv2; cases hv2
  · rw [hin u (by omega) (by omega)] at h1; cases h1
  · obtain ⟨q, hq, h1, rfl⟩ := (hm y).1 hy
    have := h.few
    exact .inl ⟨rfl, by simp only; omega, by simp only; omega⟩
  · obtain ⟨q, hq, h1, rfl⟩ := (hm y).1 hy
    exact Wk.one ⟨_, rd79_mem hq, rfl, rfl, rfl⟩
  · obtain ⟨d1, h1, h2⟩ := Wk.sub (F := EL L) (fun a b w ⟨x, hx, e0, e1, e2⟩ => by
      obtain ⟨q, hq, rfl⟩ := mem79 hx
      by_cases hne : (rd_T85 A (q : Int)).f0 = (rd_T85 A (q : Int)).f1
      · refine ⟨0, by have := (ha q hq).w0; omega, ?_⟩
        rw [← e0, ← e1, ← hne]
        exact Wk.nil _ _
      · obtain ⟨p, hp, c, f0, f1, f2⟩ := counts_best h.few (fun q hq => (ha q hq).w0) _ q hq hne (Nat.le_refl _)
        exact ⟨(rd_T85 A (p : Int)).f2, by omega, Wk.one ⟨_, (hm _).2 ⟨p, hp, (hk p hp).2 c, rfl⟩, by simp only; omega, by simp only; omega, rfl⟩⟩) hw
    obtain ⟨d2, h3, h4⟩ := hyp s u d1 (hin s (by omega) (by omega)) (hin u (by omega) (by omega)) h2
    exact ⟨d2, by omega, h4⟩
end Go.Proofs.YtfkejflmhidnaaaGreat.PAll
