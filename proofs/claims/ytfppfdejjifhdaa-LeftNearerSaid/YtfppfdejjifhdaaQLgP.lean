import Derived.Test.YtfppfdejjifhdaaQLsP
import Derived.Test.YtfppfdejjifhdaaQLvP
namespace Go.Proofs.Ytfppfdejjifhdaa.PAll
open Go.RowKit Go.Proofs.YtfppfdejjifhdaaW.PrintWords Go.Proofs.YtfppfdejjifhdaaW.PrintLast Go.Proofs.YtfppfdejjifhdaaW.PrintMore
set_option linter.unusedVariables false
set_option linter.unusedSimpArgs false

/-! ### a graph, plain: which arcs count, and its side -/
/-- those of n that are -/
def numL (n : Nat) (p : Nat → Bool) : List Int := ((List.range n).filter p).map (fun i : Nat => (i : Int))
theorem numL_iff (n : Nat) (p : Nat → Bool) (k : Int) : k ∈ numL n p ↔ ∃ i : Nat, i < n ∧ p i = true ∧ k = i := by
  unfold numL
  simp only [List.mem_map, List.mem_filter, List.mem_range]
  constructor
  · rintro ⟨i, ⟨h1, h2⟩, rfl⟩; exact ⟨i, h1, h2, rfl⟩
  · rintro ⟨i, h1, h2, rfl⟩; exact ⟨i, ⟨h1, h2⟩, rfl⟩
theorem numL_succ (n : Nat) (p : Nat → Bool) : numL (n + 1) p = if p n = true then numL n p ++ [(n : Int)] else numL n p := by
  unfold numL
  rw [List.range_succ, List.filter_append]
  split
  · rename_i h; simp [h]
  · rename_i h; simp [h]
theorem numL_length (n : Nat) (p : Nat → Bool) : (numL n p).length ≤ n := by
  unfold numL
  rw [List.length_map]
  have := List.length_filter_le p (List.range n)
  simpa using this
def rdB (K : List Bool) (k : Int) : Bool := K.getD k.toNat false
theorem rdB_set (K : List Bool) (i : Nat) (x : Bool) (hi : i < K.length) (k : Int) (hk : 0 ≤ k) : rdB (K.set i x) k = if k = i then x else rdB K k := by
  obtain ⟨k, rfl⟩ := Int.eq_ofNat_of_zero_le hk
  unfold rdB
  rw [Int.toNat_natCast]
  by_cases h : i = k
  · subst h
    rw [if_pos rfl]
    simp [List.getD, List.getElem?_set, hi]
  · rw [if_neg (by omega)]
    simp [List.getD, List.getElem?_set, h]
/-- which arcs count, while they are looked at in their order s -/
structure KpI (fr tw : Int → Int) (s : List Int) (m i : Nat) (last : Int) (K : List Bool) : Prop where
  len : K.length = m
  snd : ∀ k : Nat, rdB K k = true → (k : Int) ∈ s
  lst : last = -1 ∨ (0 ≤ last ∧ last < m ∧ last ∈ s ∧ rdB K last = true)
  ful : ∀ j : Nat, j < i → rdB K (rd s (j : Int)) = true ∨ ∃ k' ∈ s, k' ≠ rd s (j : Int) ∧ fr k' = fr (rd s (j : Int)) ∧ tw k' = tw (rd s (j : Int))
theorem KpI.start (fr tw : Int → Int) (s : List Int) (m : Nat) : KpI fr tw s m 0 (-1) (List.replicate m false) :=
  ⟨by simp, fun k h => by
    exfalso
    unfold rdB at h
    rw [Int.toNat_natCast] at h
    by_cases hk : k < m
    · simp [List.getD, hk] at h
    · simp [List.getD, hk] at h, .inl rfl, fun j hj => by omega⟩
/-- an arc that is no better than the last one of the same ends -/
theorem KpI.skip {fr tw : Int → Int} {s : List Int} {m i : Nat} {last : Int} {K : List Bool} (h : KpI fr tw s m i last K) (hi : i < s.length) (h0 : 0 ≤ last) (h1 : fr last = fr (rd s (i : Int))) (h2 : tw last = tw (rd s (i : Int))) : KpI fr tw s m (i + 1) last K := by
  refine ⟨h.len, h.snd, h.lst, fun j hj => ?_⟩
  by_cases hji : j = i
  · subst hji
    rcases h.lst with g | ⟨g0, g1, g2, g3⟩
    · omega
    · by_cases e : last = rd s (j : Int)
      · left; rw [← e]; exact g3
      · exact .inr ⟨last, g2, e, h1, h2⟩
  · exact h.ful j (by omega)
/-- an arc that counts; the last one of the same ends counts no more -/
theorem KpI.over {fr tw : Int → Int} {s : List Int} {m i : Nat} {last : Int} {K : List Bool} (h : KpI fr tw s m i last K) (hi : i < s.length) (hall : ∀ k ∈ s, 0 ≤ k ∧ k < m) (h0 : 0 ≤ last) (hne : last ≠ rd s (i : Int)) (h1 : fr last = fr (rd s (i : Int))) (h2 : tw last = tw (rd s (i : Int))) :
    KpI fr tw s m (i + 1) (rd s (i : Int)) ((K.set last.toNat false).set (rd s (i : Int)).toNat true) := by
  rcases h.lst with g | ⟨g0, g1, g2, g3⟩
  · omega
  have hmem : ∀ j : Nat, j ≤ i → rd s (j : Int) ∈ s := fun j hj => by rw [rd_getL (show j < s.length by omega)]; exact List.getElem_mem _
  have hs := hall _ (hmem i (Nat.le_refl _))
  have hset : ∀ k : Int, 0 ≤ k → rdB ((K.set last.toNat false).set (rd s (i : Int)).toNat true) k = if k = rd s (i : Int) then true else if k = last then false else rdB K k := fun k hk => by
    rw [rdB_set _ _ _ (by rw [List.length_set, h.len]; omega) k hk, rdB_set _ _ _ (by rw [h.len]; omega) k hk, Int.toNat_of_nonneg hs.1, Int.toNat_of_nonneg g0]
  refine ⟨by rw [List.length_set, List.length_set, h.len], fun k hk => ?_, .inr ⟨hs.1, hs.2, hmem i (Nat.le_refl _), by rw [hset _ hs.1, if_pos rfl]⟩, fun j hj => ?_⟩
  · rw [hset _ (by omega)] at hk
    split at hk
    · rename_i e; rw [e]; exact hmem i (Nat.le_refl _)
    · split at hk
      · cases hk
      · exact h.snd k hk
  · by_cases hji : j = i
    · subst hji; left; rw [hset _ hs.1, if_pos rfl]
    · rcases h.ful j (by omega) with f | f
      · rw [hset _ (hall _ (hmem j (by omega))).1]
        by_cases e1 : rd s (j : Int) = rd s (i : Int)
        · left; rw [if_pos e1]
        · rw [if_neg e1]
          by_cases e2 : rd s (j : Int) = last
          · exact .inr ⟨rd s (i : Int), hmem i (Nat.le_refl _), fun e => e1 e.symm, by rw [e2, h1], by rw [e2, h2]⟩
          · left; rw [if_neg e2]; exact f
      · exact .inr f
/-- an arc that counts -/
theorem KpI.new {fr tw : Int → Int} {s : List Int} {m i : Nat} {last : Int} {K : List Bool} (h : KpI fr tw s m i last K) (hi : i < s.length) (hall : ∀ k ∈ s, 0 ≤ k ∧ k < m) :
    KpI fr tw s m (i + 1) (rd s (i : Int)) (K.set (rd s (i : Int)).toNat true) := by
  have hmem : ∀ j : Nat, j ≤ i → rd s (j : Int) ∈ s := fun j hj => by rw [rd_getL (show j < s.length by omega)]; exact List.getElem_mem _
  have hs := hall _ (hmem i (Nat.le_refl _))
  have hset : ∀ k : Int, 0 ≤ k → rdB (K.set (rd s (i : Int)).toNat true) k = if k = rd s (i : Int) then true else rdB K k := fun k hk => by
    rw [rdB_set _ _ _ (by rw [h.len]; omega) k hk, Int.toNat_of_nonneg hs.1]
  refine ⟨by rw [List.length_set, h.len], fun k hk => ?_, .inr ⟨hs.1, hs.2, hmem i (Nat.le_refl _), by rw [hset _ hs.1, if_pos rfl]⟩, fun j hj => ?_⟩
  · rw [hset _ (by omega)] at hk
    split at hk
    · rename_i e; rw [e]; exact hmem i (Nat.le_refl _)
    · exact h.snd k hk
  · by_cases hji : j = i
    · subst hji; left; rw [hset _ hs.1, if_pos rfl]
    · rcases h.ful j (by omega) with f | f
      · left
        rw [hset _ (hall _ (hmem j (by omega))).1]
        split
        · rfl
        · exact f
      · exact .inr f

/-! ### the edges of a graph -/
structure EdgP where
  v : Int
  w : Int
  arc : Int
/-- the edges of a graph of m arcs -/
structure GOk (n m : Nat) (fr tw wt : Int → Int) (E : Nat → List EdgP) : Prop where
  src : ∀ v : Nat, v < n → ∀ e ∈ E v, ∃ k : Nat, k < m ∧ fr k = v ∧ tw k = e.v ∧ wt k = e.w ∧ e.arc = k ∧ fr k ≠ tw k
  ful : ∀ k v : Nat, k < m → v < n → fr k = v → fr k ≠ tw k → (∀ k' : Nat, k' < m → k' ≠ k → ¬ (fr k' = fr k ∧ tw k' = tw k)) → ∃ e ∈ E v, e.v = tw k
def edgeP (tw wt : Int → Int) (k : Int) : EdgP := ⟨tw k, wt k, k⟩
theorem gok_of {n m : Nat} {fr tw wt : Int → Int} {s1 s l1 l2 : List Int} {last : Int} {K : List Bool} (hf : ∀ k : Nat, k < m → 0 ≤ fr k ∧ fr k < n) (ht : ∀ k : Nat, k < m → 0 ≤ tw k ∧ tw k < n)
    (h1 : SoI tw (numL m fun k => decide (fr k ≠ tw k)) (numL m fun k => decide (fr k ≠ tw k)).length s1) (h2 : SoI fr s1 s1.length s)
    (hK : KpI fr tw s m s.length last K)
    (h3 : SoI tw (numL m fun k => rdB K k) (numL m fun k => rdB K k).length l1) (h4 : SoI fr l1 l1.length l2) :
    GOk n m fr tw wt (fun v => (segL fr l2 v).map (edgeP tw wt)) := by
  have n1 : ∀ (p : Nat → Bool), ∀ k ∈ numL m p, (0 ≤ tw k ∧ tw k < n) ∧ (0 ≤ fr k ∧ fr k < n) := fun p k hk => by
    obtain ⟨i, hi, _, rfl⟩ := (numL_iff _ _ _).1 hk
    exact ⟨ht i hi, hf i hi⟩
  have i1 := h1.iff (n := n) (fun k hk => (n1 _ k hk).1)
  have i2 := h2.iff (n := n) (fun k hk => (n1 _ k ((i1 k).1 hk)).2)
  have i3 := h3.iff (n := n) (fun k hk => (n1 _ k hk).1)
  have i4 := h4.iff (n := n) (fun k hk => (n1 _ k ((i3 k).1 hk)).2)
  have hs := h4.sorted (n := n) (fun k hk => (n1 _ k ((i3 k).1 hk)).2)
  refine ⟨fun v hv e he => ?_, fun k v hk hv hfk hne hal => ?_⟩
  · obtain ⟨k, hk, rfl⟩ := List.mem_map.1 he
    obtain ⟨hm, hfv⟩ := (segL_iff hs v k).1 hk
    obtain ⟨i, hi, hB, rfl⟩ := (numL_iff _ _ _).1 ((i3 k).1 ((i4 k).1 hm))
    have hw := (i1 _).1 ((i2 _).1 (hK.snd i hB))
    obtain ⟨j, hj, hd, e1⟩ := (numL_iff _ _ _).1 hw
    have : i = j := by omega
    subst this
    exact ⟨i, hi, hfv, rfl, rfl, rfl, by simpa using hd⟩
  · have hw : (k : Int) ∈ s := (i2 _).2 ((i1 _).2 ((numL_iff _ _ _).2 ⟨k, hk, by simpa using hne, rfl⟩))
    obtain ⟨j, hj, e1⟩ := List.getElem_of_mem hw
    have hB : rdB K k = true := by
      rcases hK.ful j hj with f | ⟨k', hk', hn', e2, e3⟩
      · rwa [rd_getL hj, e1] at f
      · exfalso
        rw [rd_getL hj, e1] at hn' e2 e3
        obtain ⟨i, hi, _, rfl⟩ := (numL_iff _ _ _).1 ((i1 _).1 ((i2 _).1 hk'))
        exact hal i hi (fun e => hn' (by rw [e])) ⟨e2, e3⟩
    refine ⟨edgeP tw wt k, List.mem_map.2 ⟨k, (segL_iff hs v k).2 ⟨(i4 _).2 ((i3 _).2 ((numL_iff _ _ _).2 ⟨k, hk, hB, rfl⟩)), hfk⟩, rfl⟩, rfl⟩

/-! ### all of a graph, laid way by way -/
/-- edges that may be -/
structure EdOk (n : Nat) (E : Nat → List EdgP) : Prop where
  ok : ∀ v : Nat, v < n → ∀ e ∈ E v, 0 ≤ e.v ∧ e.v < n ∧ e.v ≠ v ∧ 0 ≤ e.w ∧ e.w ≤ 2147483648
def wayE (e : EdgP) : WayP := ⟨e.w, -1, e.arc⟩
structure LnI (n : Nat) (E : Nat → List EdgP) (v i : Nat) (F : Int → Int → Option WayP) : Prop where
  src : ∀ a b y, F a b = some y → ∃ p : Nat, p < n ∧ a = p ∧ ∃ e ∈ E p, e.v = b ∧ y = wayE e
  has : ∀ p : Nat, p < v → ∀ e ∈ E p, (F p e.v).isSome = true
  cur : ∀ j (hj : j < (E v).length), j < i → (F v (E v)[j].v).isSome = true
theorem LnI.start (n : Nat) (E : Nat → List EdgP) : LnI n E 0 0 (fun _ _ => none) := ⟨fun a b y h => by (cases h), fun p h => by omega, fun j _ h => by omega⟩
theorem LnI.step {n : Nat} {E : Nat → List EdgP} {v i : Nat} {F : Int → Int → Option WayP} (h : LnI n E v i F) (hv : v < n) (hi : i < (E v).length) : LnI n E v (i + 1) (putF F v (E v)[i].v (wayE (E v)[i])) := by
  refine ⟨fun a b y e => ?_, fun p hp e he => ?_, fun j hj hji => ?_⟩
  · unfold putF at e
    split at e
    · rename_i hab
      cases e
      obtain ⟨rfl, rfl⟩ := hab
      exact ⟨v, hv, rfl, _, List.getElem_mem hi, rfl, rfl⟩
    · exact h.src a b y e
  · unfold putF
    split
    · rfl
    · exact h.has p hp e he
  · unfold putF
    split
    · rfl
    · rename_i hn
      by_cases e : j = i
      · subst e; exact absurd ⟨rfl, rfl⟩ hn
      · exact h.cur j hj (by omega)
theorem LnI.next {n : Nat} {E : Nat → List EdgP} {v : Nat} {F : Int → Int → Option WayP} (h : LnI n E v (E v).length F) : LnI n E (v + 1) 0 F := by
  refine ⟨h.src, fun p hp e he => ?_, fun j _ hj => by omega⟩
  by_cases hpv : p = v
  · subst hpv
    obtain ⟨j, hj, e1⟩ := List.getElem_of_mem he
    rw [← e1]
    exact h.cur j hj hj
  · exact h.has p (by omega) e he
theorem GOk.ed {n m : Nat} {fr tw wt : Int → Int} {E : Nat → List EdgP} (h : GOk n m fr tw wt E) (ht : ∀ k : Nat, k < m → 0 ≤ tw k ∧ tw k < n) (hw : ∀ k : Nat, k < m → 0 ≤ wt k ∧ wt k ≤ 2147483648) : EdOk n E := ⟨fun v hv e he => by
  obtain ⟨k, hk, e1, e2, e3, _, e5⟩ := h.src v hv e he
  have h1 := ht k hk
  have h2 := hw k hk
  exact ⟨by omega, by omega, by omega, by omega, by omega⟩⟩
theorem LnI.lok {n : Nat} {E : Nat → List EdgP} {v i : Nat} {F : Int → Int → Option WayP} (h : LnI n E v i F) (hE : EdOk n E) : LOk n 2147483648 F := ⟨fun a b y e => by
  obtain ⟨p, hp, rfl, x, hx, rfl, rfl⟩ := h.src a b y e
  obtain ⟨h0, h1, h2, h3, h4⟩ := hE.ok p hp x hx
  exact ⟨by omega, by omega, h0, h1, fun f => h2 f.symm, h3, h4⟩⟩

/-! ### the example -/
theorem known_F {fr tw wt : Int → Int} {E : Nat → List EdgP} (h : GOk 3 2 fr tw wt E) (f0 : fr 0 = 0) (f1 : fr 1 = 1) (t0 : tw 0 = 1) (t1 : tw 1 = 2) (w0 : wt 0 = 2) (w1 : wt 1 = 3) {F : Int → Int → Option WayP} (hF : LnI 3 E 3 0 F) (a b : Int) :
    F a b = if a = 0 ∧ b = 1 then some ⟨2, -1, 0⟩ else if a = 1 ∧ b = 2 then some ⟨3, -1, 1⟩ else none := by
  have src : ∀ a b y, F a b = some y → (a = 0 ∧ b = 1 ∧ y = ⟨2, -1, 0⟩) ∨ (a = 1 ∧ b = 2 ∧ y = ⟨3, -1, 1⟩) := fun a b y e => by
    obtain ⟨p, hp, rfl, x, hx, rfl, rfl⟩ := hF.src a b y e
    obtain ⟨k, hk, e1, e2, e3, e4, e5⟩ := h.src p hp x hx
    obtain ⟨xv, xw, xa⟩ := x
    simp only at e2 e3 e4 ⊢
    have : k = 0 ∨ k = 1 := by omega
    rcases this with rfl | rfl
    · left
      simp only [Int.natCast_zero, Int.natCast_one, Int.ofNat_zero, Int.ofNat_one] at e1 e2 e3 e4 e5
      rw [f0] at e1; rw [t0] at e2; rw [w0] at e3
      subst e2 e3 e4
      exact ⟨by omega, rfl, rfl⟩
    · right
      simp only [Int.natCast_zero, Int.natCast_one, Int.ofNat_zero, Int.ofNat_one] at e1 e2 e3 e4 e5
      rw [f1] at e1; rw [t1] at e2; rw [w1] at e3
      subst e2 e3 e4
      exact ⟨by omega, rfl, rfl⟩
  by_cases c0 : a = 0 ∧ b = 1
  · rw [if_pos c0]
    obtain ⟨rfl, rfl⟩ := c0
    obtain ⟨e, he, e1⟩ := h.ful 0 0 (by omega) (by omega) (by simpa using f0) (by simp [f0, t0]) (fun k' hk' hne => by
      have : k' = 1 := by omega
      subst this
      simp [f0, f1])
    have := hF.has 0 (by omega) e he
    rw [e1] at this
    simp only [Int.natCast_zero, Int.ofNat_zero, t0] at this
    obtain ⟨y, hy⟩ := Option.isSome_iff_exists.1 this
    rw [hy]
    rcases src _ _ _ hy with ⟨_, _, e⟩ | ⟨e, _⟩
    · rw [e]
    · omega
  · rw [if_neg c0]
    by_cases c1 : a = 1 ∧ b = 2
    · rw [if_pos c1]
      obtain ⟨rfl, rfl⟩ := c1
      obtain ⟨e, he, e1⟩ := h.ful 1 1 (by omega) (by omega) (by simpa using f1) (by simp [f1, t1]) (fun k' hk' hne => by
        have : k' = 0 := by omega
        subst this
        simp [f0, f1])
      have := hF.has 1 (by omega) e he
      rw [e1] at this
      simp only [Int.natCast_one, Int.ofNat_one, t1] at this
      obtain ⟨y, hy⟩ := Option.isSome_iff_exists.1 this
      rw [hy]
      rcases src _ _ _ hy with ⟨e, _⟩ | ⟨_, _, e⟩
      · omega
      · rw [e]
    · rw [if_neg c1]
      cases e : F a b with
      | none => rfl
      | some y =>
        rcases src _ _ _ e with ⟨g0, g1, _⟩ | ⟨g0, g1, _⟩
        · exact absurd ⟨g0, g1⟩ c0
        · exact absurd ⟨g0, g1⟩ c1
theorem known_far {F : Int → Int → Option WayP} (hF : ∀ a b, F a b = if a = 0 ∧ b = 1 then some ⟨2, -1, 0⟩ else if a = 1 ∧ b = 2 then some ⟨3, -1, 1⟩ else none) : ¬ nearP (edgeL F 1) 0 2 99 := by
  rintro ⟨d, _, k, hw⟩
  cases k with
  | zero => obtain ⟨e, _⟩ := hw; omega
  | succ k =>
    obtain ⟨b, w, e, ⟨hb, y, hy, _⟩, _, _⟩ := WkN.uncons k hw
    rw [hF] at hy
    rw [if_neg (fun g => hb g.2), if_neg (fun g => by omega)] at hy
    cases hy
theorem known_near {F : Int → Int → Option WayP} (hF : ∀ a b, F a b = if a = 0 ∧ b = 1 then some ⟨2, -1, 0⟩ else if a = 1 ∧ b = 2 then some ⟨3, -1, 1⟩ else none) : nearP (edgeL F 7) 0 2 5 :=
  ⟨2 + 3, by omega, (Wk.one (E := edgeL F 7) (a := 0) (b := 1) (w := 2) ⟨by omega, ⟨2, -1, 0⟩, by rw [hF]; simp, rfl⟩).snoc (c := 2) (w := 3) ⟨by omega, ⟨3, -1, 1⟩, by rw [hF]; simp, rfl⟩⟩
end Go.Proofs.Ytfppfdejjifhdaa.PAll
