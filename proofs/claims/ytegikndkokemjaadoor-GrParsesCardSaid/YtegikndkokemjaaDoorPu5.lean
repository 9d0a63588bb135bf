import Derived.Test.YtegikndkokemjaaDoorPu4
namespace Go.Proofs.YtegikndkokemjaaDoor.PAll
open Go.RowKit Go.Proofs.YtegikndkokemjaaDoorW.PrintWords Go.Proofs.YtegikndkokemjaaDoorW.PrintLast Go.Proofs.YtegikndkokemjaaDoorW.PrintMore
open GrFn

/-- a parse's answer as the printed functions give it -/
def ansR : M ⊕ Int → Int × List S50 × Int × Int
  | .inl m => (m.n, m.arcs.map toS, 0, 0)
  | .inr j => (0, [], 12, j)
/-- what follows the lines -/
def close (c : Nat) : St ⊕ Int → M ⊕ Int
  | .inr j => .inr j
  | .inl u => if u.many = (u.arcs.length : Int) then .inl ⟨u.n, u.arcs⟩ else .inr (c + 1)

theorem drop_rdL (xs : List (List UInt8)) (i : Nat) (h : i < xs.length) : ∃ x, xs.drop i = x :: xs.drop (i + 1) ∧ rdOf ByteArray.empty (xs.map mk) (i : Int) = mk x ∧ x ∈ xs := by
  refine ⟨xs[i], List.drop_eq_getElem_cons h, ?_, List.getElem_mem h⟩
  simp [rdOf, List.getD, h]

theorem lines_cons (t : St) (x : List UInt8) (l : List (List UInt8)) (i : Int) : GrFn.lines t (x :: l) i = match GrFn.line t x with
    | none => .inr (i + 1)
    | some u => GrFn.lines u l (i + 1) := rfl

theorem ref_parse_l (xs : List (List UInt8)) (B : Nat) (hB : ∀ x ∈ xs, x.length ≤ B) (hB2 : B ≤ 50000) (hx : xs.length ≤ 60000) : ∀ (d i k : Nat) (n : Int) (l : List S50) (m : Int) (p : Bool) (t : St), i + d = xs.length → d + B + 30 < k → Rl n l m p t → l.length ≤ i →
    postroadref05_Parse.l0 k (xs.map mk) (i : Int) n l m p = some (ansR (close xs.length (GrFn.lines t (xs.drop i) i)))
  | 0, i, k, n, l, m, p, t, hi, hk, h, hl => by
    match k, hk with
    | k + 1, _ =>
      rw [postroadref05_Parse.l0, if_neg (by rw [List.length_map]; omega), List.drop_of_length_le (by omega), List.length_map, wrap_is (by omega)]
      rcases h with ⟨rfl, rfl, rfl, rfl, hm⟩ | ⟨rfl, rfl, rfl, rfl⟩
      · rw [if_pos rfl, List.length_map]
        simp only [GrFn.lines, close]
        by_cases hq : (t.arcs.length : Int) = t.many
        · rw [if_pos hq, if_pos hq.symm]; rfl
        · rw [if_neg hq, if_neg (fun e => hq e.symm)]; rfl
      · rw [if_neg (by decide)]
        simp only [GrFn.lines, close]
        rw [if_neg (by decide)]
        rfl
  | d + 1, i, k, n, l, m, p, t, hi, hk, h, hl => by
    match k, hk with
    | k + 1, hk =>
      obtain ⟨x, e1, e2, e3⟩ := drop_rdL xs i (by omega)
      have ew : wrap64 ((i : Int) + 1) = ((i + 1 : Nat) : Int) := by rw [wrap_is (by omega)]; omega
      have hxb := hB x e3
      rw [postroadref05_Parse.l0, if_pos (by rw [List.length_map]; omega), if_pos (by omega), e2, e1, lines_cons, ew]
      have hln := ref_line (mk x) (by show x.length ≤ _; omega) k (by show x.length + 30 < k; omega) n l m p t h (by omega)
      rw [bytes_of_mk] at hln
      cases hq : GrFn.line t x with
      | none =>
        rw [hq] at hln
        obtain ⟨n', l', m', p', e⟩ := hln
        rw [e]
        simp only [Option.bind_some, Bool.false_eq_true, if_false, close, ansR]
        rw [show ((i + 1 : Nat) : Int) = (i : Int) + 1 by omega]
      | some u =>
        rw [hq] at hln
        obtain ⟨n', l', m', p', e, hR, hl'⟩ := hln
        rw [e]
        simp only [Option.bind_some, if_true]
        rw [ref_parse_l xs B hB hB2 hx d (i + 1) k n' l' m' p' u (by omega) (by omega) hR (by omega)]
        rw [show ((i + 1 : Nat) : Int) = (i : Int) + 1 by omega]

theorem cutAt_short (c : UInt8) : ∀ (l : List UInt8), ∀ x ∈ cutAt c l, x.length ≤ l.length
  | [], x, hx => by simp [cutAt] at hx; simp [hx]
  | y :: l, x, hx => by
    have ih := cutAt_short c l
    rw [cutAt] at hx
    split at hx
    · rcases List.mem_cons.1 hx with rfl | h
      · simp
      · have := ih x h; simp; omega
    · split at hx
      · rename_i h
        exact absurd h (Split.cutAt_ne c l)
      · rename_i h' t' h
        rw [h] at ih
        rcases List.mem_cons.1 hx with rfl | hx
        · have := ih h' (by simp); simp; omega
        · have := ih x (by simp [hx]); simp; omega

theorem ref_parse_j1 (s : ByteArray) (hs : s.size ≤ 50000) (k : Nat) (hk : 2 * s.size + 40 < k) : postroadref05_Parse.j1 k s = some (ansR (close (cutAt 10 (bytes s)).length (GrFn.lines ⟨0, [], -1⟩ (cutAt 10 (bytes s)) 0))) := by
  obtain ⟨k, rfl⟩ : ∃ q, k = q + 1 := ⟨k - 1, by omega⟩
  rw [postroadref05_Parse.j1, ref_cut s 10 10 rfl (by omega) k (by omega)]
  simp only [Option.bind_some]
  have hl := cutAt_length 10 (bytes s)
  rw [size_bytes] at hl
  have := ref_parse_l (cutAt 10 (bytes s)) s.size (fun x hx => by have := cutAt_short 10 (bytes s) x hx; rw [size_bytes] at this; exact this) hs (by omega) (cutAt 10 (bytes s)).length 0 k 0 [] 0 false ⟨0, [], -1⟩ (by omega) (by omega) (.inr ⟨rfl, rfl, rfl, rfl⟩) (by simp)
  rw [List.drop_zero] at this
  exact this

theorem parse_strip (l : List UInt8) : GrFn.parse l = if (strip l).1 = [] ∧ (strip l).2 = false then .inr 1 else close (cutAt 10 (strip l).1).length (GrFn.lines ⟨0, [], -1⟩ (cutAt 10 (strip l).1) 0) := by
  unfold GrFn.parse close
  rfl

theorem ref_parse (s : ByteArray) (hs : s.size ≤ 50000) (k : Nat) (hk : 2 * s.size + 60 < k) : postroadref05_Parse.f k s = some (ansR (GrFn.parse (bytes s))) := by
  obtain ⟨k, rfl⟩ : ∃ q, k = q + 1 := ⟨k - 1, by omega⟩
  unfold postroadref05_Parse.f
  rw [parse_strip]
  by_cases h0 : (s.size : Int) > 0
  · have ew : wrap64 ((s.size : Int) - 1) = ((s.size - 1 : Nat) : Int) := by rw [wrap_is (by omega)]; omega
    obtain ⟨b, e1, e2, _, _⟩ := drop_bt s (s.size - 1) (by omega)
    rw [if_pos h0, ew, if_pos (by omega), if_pos (by omega), e2]
    have hne : bytes s ≠ [] := fun e => by have := size_bytes s; rw [e] at this; simp at this; omega
    have hlast : (bytes s).getLast? = some b := by
      have e4 : (bytes s).drop (s.size - 1) = [b] := by
        rw [e1, List.drop_of_length_le (by rw [size_bytes]; omega)]
      have e5 : bytes s = (bytes s).take (s.size - 1) ++ [b] := by rw [← e4, List.take_append_drop]
      rw [e5]; simp
    by_cases hb : b = 10
    · subst hb
      have hst : strip (bytes s) = ((bytes s).dropLast, true) := by unfold strip; rw [if_pos hlast]
      have hex : bytes (s.extract 0 (s.size - 1)) = (bytes s).dropLast := by
        show (s.extract 0 (s.size - 1)).data.toList = _
        rw [Split.extract_list, List.drop_zero, List.dropLast_eq_take]
        rfl
      have hsz : (s.extract 0 (s.size - 1)).size ≤ s.size := by
        rw [← size_bytes, hex, List.length_dropLast, size_bytes]; omega
      rw [hst, if_neg (by simp), show ((((10 : UInt8).toNat : Int)) == 10) = true from rfl, postroadref05_Parse.j0, if_pos rfl, ew, if_pos (by omega), if_pos (by omega), show (((s.size - 1 : Nat) : Int)).toNat = s.size - 1 from rfl]
      rw [ref_parse_j1 _ (by omega) k (by omega), hex]
    · have hst : strip (bytes s) = (bytes s, false) := by unfold strip; rw [if_neg (by rw [hlast]; simpa using hb)]
      have hb' : (((b.toNat : Int)) == 10) = false := by
        rw [beq_eq_false_iff_ne]
        intro e
        apply hb
        apply UInt8.toNat_inj.1
        have : (10 : UInt8).toNat = 10 := rfl
        omega
      rw [hst, if_neg (by simpa using hne), hb', postroadref05_Parse.j0, if_neg (by decide), toList_eq, if_neg hne, ref_parse_j1 _ (by omega) k (by omega)]
  · have he : bytes s = [] := by
      have := size_bytes s
      exact List.length_eq_zero_iff.1 (by omega)
    rw [if_neg h0, postroadref05_Parse.j0, if_neg (by decide), toList_eq, if_pos he, he]
    rfl

theorem gr_parse_is (k : Nat) (s : ByteArray) (hs : s.size ≤ 2147483648) : gr_Parse.f k s = some (ansR (GrFn.parse (bytes s))) := by
  unfold gr_Parse.f
  rw [if_pos hs]
  cases GrFn.parse (bytes s) <;> rfl

theorem lines_arcs : ∀ (l : List (List UInt8)) (t u : St) (i : Int), GrFn.lines t l i = .inl u → u.arcs.length ≤ t.arcs.length + l.length
  | [], t, u, i, h => by cases h; simp
  | x :: l, t, u, i, h => by
    rw [lines_cons] at h
    cases hq : GrFn.line t x with
    | none => rw [hq] at h; cases h
    | some v =>
      rw [hq] at h
      have ih := lines_arcs l v u (i + 1) h
      have hv : v.arcs.length ≤ t.arcs.length + 1 := by
        cases hw : GrFn.words x with
        | nil => rw [line_nil hw] at hq; cases hq; omega
        | cons y r =>
          rw [line_cons hw] at hq
          split at hq
          · cases hq; omega
          · split at hq
            · cases r with
              | nil => cases hq
              | cons y ys =>
                rw [size_cons] at hq
                split at hq
                · cases hq
                · split at hq
                  · split at hq
                    · cases hq; simp
                    · cases hq
                  · cases hq
            · split at hq
              · unfold GrFn.arc at hq
                split at hq
                · split at hq
                  · cases hq
                  · cases hq; simp
                · cases hq
              · cases hq
      simp only [List.length_cons]
      omega

theorem parse_arcs (l : List UInt8) : (ansR (GrFn.parse l)).2.1.length ≤ l.length + 1 := by
  rw [parse_strip]
  split
  · simp [ansR]
  · have hl : (strip l).1.length ≤ l.length := by unfold strip; split <;> simp
    have hc := cutAt_length 10 (strip l).1
    cases h : GrFn.lines ⟨0, [], -1⟩ (cutAt 10 (strip l).1) 0 with
    | inr j => simp [close, ansR]
    | inl u =>
      have := lines_arcs _ _ _ _ h
      simp only [close]
      split
      · simp [ansR] at this ⊢; omega
      · simp [ansR]

theorem pure_parses : postroadlaw05_GrParses.Pure := by
  intro s hs
  refine ⟨5000, ?_⟩
  unfold postroadlaw05_GrParses.f
  rw [known_is 5000 (by omega)]
  split
  · rfl
  · rename_i h
    rw [gr_parse_is _ s (by omega), ref_parse s (by omega) 5000 (by omega)]
    simp only [Option.bind_some]
    have := parse_arcs (bytes s)
    rw [size_bytes] at this
    rw [ref_same_is _ _ _ _ _ (by omega) (by omega), same_refl]
    simp
end Go.Proofs.YtegikndkokemjaaDoor.PAll
