import Derived.Test.YtfppfdejjifhdaaQHpF
namespace Go.Proofs.Ytfppfdejjifhdaa.PAll
open Go.RowKit Go.Proofs.YtfppfdejjifhdaaW.PrintWords Go.Proofs.YtfppfdejjifhdaaW.PrintLast Go.Proofs.YtfppfdejjifhdaaW.PrintMore
set_option linter.unusedVariables false
set_option linter.unusedSimpArgs false

/-! ### sorting by counting, plain: by an end of each, a place -/
/-- how many ends lie below v -/
def cntB (e : Int → Int) (l : List Int) (v : Nat) : Nat := l.countP fun k => decide (e k < v)
/-- how many ends are v -/
def cntE (e : Int → Int) (l : List Int) (v : Nat) : Nat := l.countP fun k => decide (e k = v)
theorem cntB_succ (e : Int → Int) (l : List Int) (v : Nat) : cntB e l (v + 1) = cntB e l v + cntE e l v := by
  unfold cntB cntE
  induction l with
  | nil => rfl
  | cons k l ih =>
    have g1 : (if decide (e k < ((v + 1 : Nat) : Int)) = true then 1 else 0) = (if decide (e k < (v : Int)) = true then 1 else 0) + (if decide (e k = (v : Int)) = true then 1 else 0) := by
      simp only [decide_eq_true_eq]
      split <;> split <;> (try split) <;> omega
    rw [List.countP_cons, List.countP_cons, List.countP_cons, ih]
    simp only [g1]
    omega
theorem cntB_zero (e : Int → Int) (l : List Int) (h : ∀ k ∈ l, 0 ≤ e k) : cntB e l 0 = 0 := by
  unfold cntB
  rw [List.countP_eq_zero]
  intro k hk
  have := h k hk
  simp; omega
theorem cntB_mono (e : Int → Int) (l : List Int) {v u : Nat} (h : v ≤ u) : cntB e l v ≤ cntB e l u := by
  induction u with
  | zero => rw [show v = 0 by omega]; exact Nat.le_refl _
  | succ u ih =>
    by_cases hv : v = u + 1
    · rw [hv]; exact Nat.le_refl _
    · rw [cntB_succ]; have := ih (by omega); omega
theorem cntB_all (e : Int → Int) (l : List Int) {n : Nat} (h : ∀ k ∈ l, e k < n) : cntB e l n = l.length := by
  unfold cntB
  rw [List.countP_eq_length]
  intro k hk
  have := h k hk
  simp; omega
theorem cntE_take (e : Int → Int) (l : List Int) (i : Nat) (hi : i < l.length) (v : Nat) : cntE e (l.take (i + 1)) v = cntE e (l.take i) v + (if e l[i] = v then 1 else 0) := by
  unfold cntE
  rw [List.take_succ_eq_append_getElem hi, List.countP_append, List.countP_singleton]
  simp
theorem cntE_le (e : Int → Int) (l : List Int) (i : Nat) (v : Nat) : cntE e (l.take i) v ≤ cntE e l v := by
  have h := List.take_append_drop i l
  unfold cntE
  conv => rhs; rw [← h, List.countP_append]
  omega
/-- where the i-th one goes: there is room -/
theorem cnt_room (e : Int → Int) (l : List Int) (i : Nat) (hi : i < l.length) (v n : Nat) (hv : e l[i] = v) (hn : v < n) (hl : ∀ k ∈ l, e k < n) : cntB e l v + cntE e (l.take i) v < cntB e l (v + 1) ∧ cntB e l (v + 1) ≤ l.length := by
  have h1 := cntE_take e l i hi v
  rw [if_pos hv] at h1
  have h2 := cntE_le e l (i + 1) v
  have h3 := cntB_succ e l v
  have h4 := cntB_mono e l (show v + 1 ≤ n by omega)
  rw [cntB_all e l hl] at h4
  omega
structure SoI (e : Int → Int) (l : List Int) (i : Nat) (out : List Int) : Prop where
  len : out.length = l.length
  at' : ∀ v t : Nat, t < cntE e (l.take i) v → rd out ((cntB e l v + t : Nat) : Int) ∈ l ∧ e (rd out ((cntB e l v + t : Nat) : Int)) = v
  has : ∀ j : Nat, j < i → ∃ v t : Nat, t < cntE e (l.take i) v ∧ rd out ((cntB e l v + t : Nat) : Int) = rd l (j : Int)
theorem SoI.start (e : Int → Int) (l : List Int) : SoI e l 0 (List.replicate l.length 0) := ⟨by simp, fun v t h => by simp [cntE] at h, fun j hj => by omega⟩
theorem rd_getL {d : List Int} {b : Nat} (h : b < d.length) : rd d (b : Int) = d[b] := by simp [rd, List.getD, h]
theorem rd_setN (l : List Int) (i j : Nat) (x : Int) (hi : i < l.length) : rd (l.set i x) (j : Int) = if i = j then x else rd l (j : Int) := by
  by_cases h : i = j
  · subst h
    rw [if_pos rfl, rd_getL (by simpa using hi)]
    simp
  · rw [if_neg h]
    by_cases hj : j < l.length
    · rw [rd_getL (by simpa using hj), rd_getL hj, List.getElem_set_ne h]
    · simp [rd, hj]
theorem SoI.step {e : Int → Int} {l : List Int} {i : Nat} {out : List Int} (h : SoI e l i out) (hi : i < l.length) {v n : Nat} (hv : e l[i] = v) (hn : v < n) (hl : ∀ k ∈ l, e k < n) : SoI e l (i + 1) (out.set (cntB e l v + cntE e (l.take i) v) l[i]) := by
  obtain ⟨r1, r2⟩ := cnt_room e l i hi v n hv hn hl
  have apart : ∀ u t : Nat, t < cntE e (l.take i) u → cntB e l v + cntE e (l.take i) v ≠ cntB e l u + t := fun u t ht hp => by
    have hle := cntE_le e l i u
    have hu := cntB_succ e l u
    have : v = u := by
      rcases Nat.lt_trichotomy v u with g | g | g
      · have := cntB_mono e l (show v + 1 ≤ u by omega); omega
      · exact g
      · have := cntB_mono e l (show u + 1 ≤ v by omega); omega
    subst this
    omega
  refine ⟨by simp [h.len], fun u t ht => ?_, fun j hj => ?_⟩
  rotate_left
  · by_cases hji : j = i
    · subst hji
      refine ⟨v, cntE e (l.take j) v, ?_, ?_⟩
      · rw [cntE_take e l j hi v, if_pos hv]; omega
      · rw [rd_setN _ _ _ _ (by rw [h.len]; omega), if_pos rfl, rd_getL hi]
    · obtain ⟨u, t, ht, hr⟩ := h.has j (by omega)
      refine ⟨u, t, ?_, ?_⟩
      · rw [cntE_take e l i hi u]; omega
      · rw [rd_setN _ _ _ _ (by rw [h.len]; omega), if_neg (apart u t ht), hr]
  rw [rd_setN _ _ _ _ (by rw [h.len]; omega)]
  rw [cntE_take e l i hi u] at ht
  by_cases hp : cntB e l v + cntE e (l.take i) v = cntB e l u + t
  · rw [if_pos hp]
    refine ⟨List.getElem_mem hi, ?_⟩
    have hle := cntE_le e l (i + 1) u
    rw [cntE_take e l i hi u] at hle
    have hu := cntB_succ e l u
    have : v = u := by
      rcases Nat.lt_trichotomy v u with g | g | g
      · have := cntB_mono e l (show v + 1 ≤ u by omega); omega
      · exact g
      · have := cntB_mono e l (show u + 1 ≤ v by omega); omega
    rw [hv, this]
  · rw [if_neg hp]
    apply h.at' u t
    by_cases hu : e l[i] = u
    · rw [if_pos hu] at ht
      have : u = v := by omega
      subst this
      omega
    · rw [if_neg hu] at ht
      omega
/-- all are laid: each lies among those of its end -/
theorem SoI.all {e : Int → Int} {l : List Int} {out : List Int} (h : SoI e l l.length out) (v p : Nat) (h0 : cntB e l v ≤ p) (h1 : p < cntB e l (v + 1)) : rd out (p : Int) ∈ l ∧ e (rd out (p : Int)) = v := by
  have hs := cntB_succ e l v
  have := h.at' v (p - cntB e l v) (by rw [List.take_length]; omega)
  rwa [show cntB e l v + (p - cntB e l v) = p by omega] at this
theorem SoI.mem {e : Int → Int} {l : List Int} {out : List Int} {n : Nat} (h : SoI e l l.length out) (hl : ∀ k ∈ l, 0 ≤ e k ∧ e k < n) (p : Nat) (hp : p < out.length) : rd out (p : Int) ∈ l := by
  rw [h.len] at hp
  have ha := cntB_all e l (n := n) (fun k hk => (hl k hk).2)
  have key : ∀ u : Nat, p < cntB e l u → ∃ v, cntB e l v ≤ p ∧ p < cntB e l (v + 1) := fun u => by
    induction u with
    | zero => intro g; rw [cntB_zero e l (fun k hk => (hl k hk).1)] at g; omega
    | succ u ih =>
      intro g
      by_cases g2 : p < cntB e l u
      · exact ih g2
      · exact ⟨u, by omega, g⟩
  obtain ⟨v, v0, v1⟩ := key n (by omega)
  exact (h.all v p v0 v1).1
/-- .. and each is laid -/
theorem SoI.onto {e : Int → Int} {l : List Int} {out : List Int} (h : SoI e l l.length out) {k : Int} (hk : k ∈ l) : ∃ p : Nat, p < out.length ∧ rd out (p : Int) = k := by
  obtain ⟨j, hj, e1⟩ := List.getElem_of_mem hk
  obtain ⟨v, t, ht, hr⟩ := h.has j hj
  rw [List.take_length] at ht
  have h1 := cntB_succ e l v
  have h2 : cntB e l (v + 1) ≤ l.length := by unfold cntB; exact List.countP_le_length
  refine ⟨cntB e l v + t, by rw [h.len]; omega, ?_⟩
  rw [hr, rd_getL hj, e1]
theorem SoI.iff {e : Int → Int} {l : List Int} {out : List Int} {n : Nat} (h : SoI e l l.length out) (hl : ∀ k ∈ l, 0 ≤ e k ∧ e k < n) (k : Int) : k ∈ out ↔ k ∈ l := by
  constructor
  · intro hk
    obtain ⟨p, hp, e1⟩ := List.getElem_of_mem hk
    have := h.mem hl p hp
    rwa [rd_getL hp, e1] at this
  · intro hk
    obtain ⟨p, hp, e1⟩ := h.onto hk
    rw [rd_getL hp] at e1
    rw [← e1]
    exact List.getElem_mem hp
/-- .. in order -/
theorem SoI.sorted {e : Int → Int} {l : List Int} {out : List Int} {n : Nat} (h : SoI e l l.length out) (hl : ∀ k ∈ l, 0 ≤ e k ∧ e k < n) : out.Pairwise (fun a b => e a ≤ e b) := by
  have ha := cntB_all e l (n := n) (fun k hk => (hl k hk).2)
  have hz := cntB_zero e l (fun k hk => (hl k hk).1)
  have key : ∀ p u : Nat, p < cntB e l u → ∃ v, cntB e l v ≤ p ∧ p < cntB e l (v + 1) := fun p u => by
    induction u with
    | zero => intro g; omega
    | succ u ih =>
      intro g
      by_cases g2 : p < cntB e l u
      · exact ih g2
      · exact ⟨u, by omega, g⟩
  have key : ∀ p (hp : p < out.length), ∃ v : Nat, cntB e l v ≤ p ∧ p < cntB e l (v + 1) ∧ e out[p] = v := fun p hp => by
    obtain ⟨v, v0, v1⟩ := key p n (by rw [ha, ← h.len]; exact hp)
    have := (h.all v p v0 v1).2
    rw [rd_getL hp] at this
    exact ⟨v, v0, v1, this⟩
  rw [List.pairwise_iff_getElem]
  intro i j hi hj hij
  obtain ⟨v, v0, v1, e1⟩ := key i hi
  obtain ⟨u, u0, u1, e2⟩ := key j hj
  rw [e1, e2]
  rcases Nat.lt_or_ge u v with g | g
  · have := cntB_mono e l (show u + 1 ≤ v by omega); omega
  · omega
/-- where those of a place lie in a row that is in order -/
theorem cntB_at {e : Int → Int} (v : Nat) : ∀ {l : List Int} (_ : l.Pairwise (fun a b => e a ≤ e b)) (p : Nat) (hp : p < l.length), cntB e l v ≤ p ↔ (v : Int) ≤ e l[p]
  | [], _, p, hp => by simp at hp
  | k :: l, h, p, hp => by
    obtain ⟨h1, h2⟩ := List.pairwise_cons.1 h
    have hc : cntB e (k :: l) v = cntB e l v + (if e k < (v : Int) then 1 else 0) := by unfold cntB; rw [List.countP_cons]; simp
    rw [hc]
    have hz : ¬ e k < (v : Int) → cntB e l v = 0 := fun g => by
      unfold cntB
      rw [List.countP_eq_zero]
      intro x hx
      have := h1 x hx
      simp; omega
    cases p with
    | zero =>
      simp only [List.getElem_cons_zero]
      by_cases g : e k < (v : Int)
      · rw [if_pos g]; omega
      · rw [if_neg g, hz g]; omega
    | succ p =>
      simp only [List.getElem_cons_succ]
      have ih := cntB_at v h2 p (by simpa using hp)
      by_cases g : e k < (v : Int)
      · rw [if_pos g, ← ih]; omega
      · rw [if_neg g, hz g]
        have := h1 _ (List.getElem_mem (show p < l.length by simpa using hp))
        omega
/-- those of a place -/
def segL (e : Int → Int) (l : List Int) (v : Nat) : List Int := (l.drop (cntB e l v)).take (cntB e l (v + 1) - cntB e l v)
theorem cntB_le (e : Int → Int) (l : List Int) (v : Nat) : cntB e l v ≤ l.length := by unfold cntB; exact List.countP_le_length
theorem segL_length (e : Int → Int) (l : List Int) (v : Nat) : (segL e l v).length = cntB e l (v + 1) - cntB e l v := by
  have := cntB_le e l (v + 1)
  unfold segL
  rw [List.length_take, List.length_drop]
  omega
theorem segL_iff {e : Int → Int} {l : List Int} (h : l.Pairwise (fun a b => e a ≤ e b)) (v : Nat) (k : Int) : k ∈ segL e l v ↔ k ∈ l ∧ e k = v := by
  have hle := cntB_le e l (v + 1)
  constructor
  · intro hk
    obtain ⟨i, hi, e1⟩ := List.getElem_of_mem hk
    rw [segL_length] at hi
    have e2 : l[cntB e l v + i]'(by omega) = k := by
      rw [← e1]
      simp only [segL, List.getElem_take, List.getElem_drop]
    have h1 := (cntB_at v h (cntB e l v + i) (by omega)).1 (by omega)
    have h2 : ¬ ((v + 1 : Nat) : Int) ≤ e (l[cntB e l v + i]'(by omega)) := fun g => by
      have := (cntB_at (v + 1) h (cntB e l v + i) (by omega)).2 g
      omega
    rw [e2] at h1 h2
    exact ⟨by rw [← e2]; exact List.getElem_mem _, by omega⟩
  · rintro ⟨hk, hv⟩
    obtain ⟨p, hp, e1⟩ := List.getElem_of_mem hk
    have h1 := (cntB_at v h p hp).2 (by rw [e1]; omega)
    have h2 : ¬ cntB e l (v + 1) ≤ p := fun g => by
      have := (cntB_at (v + 1) h p hp).1 g
      rw [e1] at this
      omega
    have hi : p - cntB e l v < (segL e l v).length := by rw [segL_length]; omega
    have e2 : (segL e l v)[p - cntB e l v] = k := by
      simp only [segL, List.getElem_take, List.getElem_drop]
      rw [← e1]
      congr 1
      omega
    rw [← e2]
    exact List.getElem_mem _
end Go.Proofs.Ytfppfdejjifhdaa.PAll
