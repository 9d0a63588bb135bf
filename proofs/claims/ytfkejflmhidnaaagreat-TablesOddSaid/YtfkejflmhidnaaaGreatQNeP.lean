import Derived.Test.YtfkejflmhidnaaaGreatQTtB
import Derived.Test.YtfkejflmhidnaaaGreatQTpA
set_option linter.all false
namespace Go.Proofs.YtfkejflmhidnaaaGreat.PAll
open RowKit YtfkejflmhidnaaaGreatW.PrintWords YtfkejflmhidnaaaGreatW.PrintLast YtfkejflmhidnaaaGreatW.PrintMore
open Hp hiding Good
def WkN (E : Int → Int → Int → Prop) : Nat → Int → Int → Int → Prop
 | 0, a, b, d => a = b ∧ d = 0
 | n + 1, a, c, d => ∃ b e w, WkN E n a b e ∧ E b c w ∧ d = e + w
def Wk (E : Int → Int → Int → Prop) (a b d : Int) : Prop := ∃ n, WkN E n a b d
theorem Wk.nil (E : Int → Int → Int → Prop) (a : Int) : Wk E a a 0 := ⟨0, rfl, rfl⟩
theorem Wk.snoc {E : Int → Int → Int → Prop} {a b c d w : Int} (h : Wk E a b d) (g : E b c w) : Wk E a c (d + w) := by
 obtain ⟨n, h⟩ := h
 exact ⟨n + 1, b, d, w, h, g, rfl⟩
theorem Wk.one {E : Int → Int → Int → Prop} {a b w : Int} (g : E a b w) : Wk E a b w := by
 have := (Wk.nil E a).snoc g
 rwa [Int.zero_add] at this
theorem WkN.cons {E : Int → Int → Int → Prop} : ∀ (n : Nat) {a b c w e : Int}, E a b w → WkN E n b c e → WkN E (n + 1) a c (w + e)
 | 0, a, b, c, w, e, g, ⟨h1, h2⟩ => ⟨a, 0, w, ⟨rfl, rfl⟩, by subst h1; exact g, by omega⟩
 | n + 1, a, b, c, w, e, g, ⟨x, y, z, h1, h2, h3⟩ => ⟨x, w + y, z, WkN.cons n g h1, h2, by omega⟩
theorem WkN.uncons {E : Int → Int → Int → Prop} : ∀ (n : Nat) {a c d : Int}, WkN E (n + 1) a c d → ∃ b w e, E a b w ∧ WkN E n b c e ∧ d = w + e
 | 0, a, c, d, ⟨b, e, w, ⟨h1, h2⟩, g, h3⟩ => ⟨c, w, 0, by subst h1; exact g, ⟨rfl, rfl⟩, by omega⟩
 | n + 1, a, c, d, ⟨b, e, w, h, g, h3⟩ => by
  obtain ⟨x, y, z, k1, k2, k3⟩ := WkN.uncons n h
  exact ⟨x, y, z + w, k1, ⟨b, z, w, k2, g, rfl⟩, by omega⟩
theorem Wk.cons {E : Int → Int → Int → Prop} {a b c w e : Int} (g : E a b w) (h : Wk E b c e) : Wk E a c (w + e) := by
 obtain ⟨n, h⟩ := h
 exact ⟨n + 1, WkN.cons n g h⟩
theorem Wk.append {E : Int → Int → Int → Prop} {a b c d e : Int} (h : Wk E a b d) (g : Wk E b c e) : Wk E a c (d + e) := by
 obtain ⟨n, g⟩ := g
 induction n generalizing c e with
 | zero =>
  obtain ⟨rfl, rfl⟩ := g
  rwa [Int.add_zero]
 | succ n ih =>
  obtain ⟨x, y, z, k1, k2, rfl⟩ := g
  have := (ih k1).snoc k2
  rwa [Int.add_assoc] at this
theorem Wk.sub {E F : Int → Int → Int → Prop} (hEF : ∀ a b w, E a b w → ∃ d, d ≤ w ∧ Wk F a b d) {a b d : Int} (h : Wk E a b d) : ∃ d', d' ≤ d ∧ Wk F a b d' := by
 obtain ⟨n, h⟩ := h
 induction n generalizing b d with
 | zero =>
  obtain ⟨rfl, rfl⟩ := h
  exact ⟨0, by omega, Wk.nil F a⟩
 | succ n ih =>
  obtain ⟨x, y, z, k1, k2, rfl⟩ := h
  obtain ⟨d1, e1, h1⟩ := ih k1
  obtain ⟨d2, e2, h2⟩ := hEF _ _ _ k2
  exact ⟨d1 + d2, by omega, h1.append h2⟩
theorem Wk.bind {E F : Int → Int → Int → Prop} (hEF : ∀ a b w, E a b w → Wk F a b w) {a b d : Int} (h : Wk E a b d) : Wk F a b d := by
 obtain ⟨n, h⟩ := h
 induction n generalizing b d with
 | zero =>
  obtain ⟨rfl, rfl⟩ := h
  exact Wk.nil F a
 | succ n ih =>
  obtain ⟨x, y, z, k1, k2, rfl⟩ := h
  exact (ih k1).append (hEF _ _ _ k2)
theorem Wk.imp {E F : Int → Int → Int → Prop} (hEF : ∀ a b w, E a b w → F a b w) {a b d : Int} (h : Wk E a b d) : Wk F a b d := h.bind (fun a b w g => Wk.one (hEF a b w g))
theorem WkN.nonneg {E : Int → Int → Int → Prop} (hE : ∀ a b w, E a b w → 0 ≤ w) : ∀ (n : Nat) {a b d : Int}, WkN E n a b d → 0 ≤ d
 | 0, _, _, _, ⟨_, h⟩ => by omega
 | n + 1, a, b, d, ⟨x, y, z, k1, k2, k3⟩ => by
  have h1 := WkN.nonneg hE n k1
  have h2 := hE _ _ _ k2
  omega
theorem Wk.nonneg {E : Int → Int → Int → Prop} (hE : ∀ a b w, E a b w → 0 ≤ w) {a b d : Int} (h : Wk E a b d) : 0 ≤ d := by
 obtain ⟨n, h⟩ := h
 exact WkN.nonneg hE n h
theorem Wk.first {E : Int → Int → Int → Prop} {a c d : Int} (h : Wk E a c d) (hne : a ≠ c) : ∃ b w e, E a b w ∧ Wk E b c e ∧ d = w + e := by
 obtain ⟨n, h⟩ := h
 cases n with
 | zero => exact absurd h.1 hne
 | succ n =>
  obtain ⟨b, w, e, h1, h2, h3⟩ := WkN.uncons n h
  exact ⟨b, w, e, h1, ⟨n, h2⟩, h3⟩
theorem Wk.last {E : Int → Int → Int → Prop} {a c d : Int} (h : Wk E a c d) (hne : a ≠ c) : ∃ b e w, Wk E a b e ∧ E b c w ∧ d = e + w := by
 obtain ⟨n, h⟩ := h
 cases n with
 | zero => exact absurd h.1 hne
 | succ n =>
  obtain ⟨b, e, w, h1, h2, h3⟩ := h
  exact ⟨b, e, w, ⟨n, h1⟩, h2, h3⟩
theorem skip_place {E F : Int → Int → Int → Prop} (v : Int) (h0 : ∀ a b w, E a b w → 0 ≤ w) (hne : ∀ a b w, E a b w → a ≠ b)
  (h1 : ∀ a b w, E a b w → a ≠ v → b ≠ v → ∃ d, d ≤ w ∧ Wk F a b d) (h2 : ∀ a b w u, E a v w → E v b u → a ≠ b → ∃ d, d ≤ w + u ∧ Wk F a b d) (s : Int) (hs : s ≠ v) :
  ∀ (n m : Nat), m ≤ n → ∀ (t d : Int), t ≠ v → WkN E m s t d → ∃ d', d' ≤ d ∧ Wk F s t d'
 | n, 0, _, t, d, ht, ⟨e1, e2⟩ => by
  subst e1 e2
  exact ⟨0, by omega, Wk.nil F s⟩
 | n + 1, m + 1, hm, t, d, ht, ⟨b, e, w, k1, k2, k3⟩ => by
  by_cases hb : b = v
  ·rw [hb] at k1 k2
   cases m with
   | zero => exact absurd k1.1 hs
   | succ m =>
    obtain ⟨a, e', w', g1, g2, g3⟩ := k1
    have ha : a ≠ v := hne _ _ _ g2
    obtain ⟨d1, f1, f2⟩ := skip_place v h0 hne h1 h2 s hs n m (by omega) a e' ha g1
    by_cases hat : a = t
    ·subst hat
     have := h0 _ _ _ g2
     have := h0 _ _ _ k2
     exact ⟨d1, by omega, f2⟩
    ·obtain ⟨d2, f3, f4⟩ := h2 a t w' w g2 k2 hat
     exact ⟨d1 + d2, by omega, f2.append f4⟩
  ·obtain ⟨d1, f1, f2⟩ := skip_place v h0 hne h1 h2 s hs n m (by omega) b e hb k1
   obtain ⟨d2, f3, f4⟩ := h1 b t w k2 hb ht
   exact ⟨d1 + d2, by omega, f2.append f4⟩
theorem skip {E F : Int → Int → Int → Prop} (v : Int) (h0 : ∀ a b w, E a b w → 0 ≤ w) (hne : ∀ a b w, E a b w → a ≠ b)
  (h1 : ∀ a b w, E a b w → a ≠ v → b ≠ v → ∃ d, d ≤ w ∧ Wk F a b d) (h2 : ∀ a b w u, E a v w → E v b u → a ≠ b → ∃ d, d ≤ w + u ∧ Wk F a b d) {s t d : Int} (hs : s ≠ v) (ht : t ≠ v) (h : Wk E s t d) : ∃ d', d' ≤ d ∧ Wk F s t d' := by
 obtain ⟨n, h⟩ := h
 exact skip_place v h0 hne h1 h2 s hs n n (Nat.le_refl _) t d ht h
def EUp (rk : List Int) (H : List S71) (a b w : Int) : Prop := ∃ y ∈ H, y.f0 = a ∧ y.f1 = b ∧ y.f2.f0 = w ∧ rd rk a < rd rk b
def EDn (rk : List Int) (H : List S71) (a b w : Int) : Prop := ∃ y ∈ H, y.f0 = a ∧ y.f1 = b ∧ y.f2.f0 = w ∧ rd rk b < rd rk a
def UD (rk : List Int) (H : List S71) (s t d : Int) : Prop := ∃ x du dd, Wk (EUp rk H) s x du ∧ Wk (EDn rk H) x t dd ∧ d = du + dd
theorem UD.self (rk : List Int) (H : List S71) (s : Int) : UD rk H s s 0 := ⟨s, 0, 0, Wk.nil _ _, Wk.nil _ _, rfl⟩
theorem UD.cons {rk : List Int} {H : List S71} {s x t w d : Int} (g : EUp rk H s x w) (h : UD rk H x t d) : UD rk H s t (w + d) := by
 obtain ⟨y, du, dd, h1, h2, h3⟩ := h
 exact ⟨y, w + du, dd, h1.cons g, h2, by omega⟩
theorem UD.snoc {rk : List Int} {H : List S71} {s x t w d : Int} (h : UD rk H s x d) (g : EDn rk H x t w) : UD rk H s t (d + w) := by
 obtain ⟨y, du, dd, h1, h2, h3⟩ := h
 exact ⟨y, du, dd + w, h1, h2.snoc g, by omega⟩
def EL (l : List S156) (a b w : Int) : Prop := ∃ y ∈ l, y.f0 = a ∧ y.f1 = b ∧ y.f2.f0 = w
def ELw (l : List S156) (v a b w : Int) : Prop := ∃ y ∈ l, y.f0 = a ∧ y.f1 = b ∧ y.f2.f0 = w ∧ a ≠ v ∧ b ≠ v
structure TOk (n : Nat) (wm : Int) (t : TP) : Prop where
 nn : t.n = n
 il : t.inn.length = n
 ends : ∀ x ∈ t.l, isP t x.f0 = true ∧ isP t x.f1 = true ∧ x.f0 ≠ x.f1 ∧ 0 ≤ x.f2.f0 ∧ x.f2.f0 ≤ wm
 uniq : ∀ x ∈ t.l, ∀ y ∈ t.l, x.f0 = y.f0 → x.f1 = y.f1 → x = y
theorem isP_in {t : TP} {v : Int} (h : isP t v = true) : 0 ≤ v ∧ v < t.n := by
 unfold isP at h; simp at h; omega
theorem TOk.lok {n : Nat} {wm : Int} {t : TP} (h : TOk n wm t) : LOk t.n wm t.l := fun x hx => by
 obtain ⟨h1, h2, _, h4, h5⟩ := h.ends x hx
 have := isP_in h1
 have := isP_in h2
 exact ⟨by omega, by omega, by omega, by omega, h4, h5⟩
theorem TOk.way {n : Nat} {wm : Int} {t : TP} (h : TOk n wm t) {x : S156} (hx : x ∈ t.l) : wayP t.l x.f0 x.f1 = some x.f2 := by
 cases hw : wayP t.l x.f0 x.f1 with
 | none => exact absurd ⟨rfl, rfl⟩ (wayP_none hw x hx)
 | some o =>
  obtain ⟨y, hy, e0, e1, e2⟩ := wayP_some hw
  have := h.uniq y hy x hx e0 e1
  rw [← this, e2]
def putsIt (t : TP) (u v x mid : Int) : Bool := isP t u && (isP t v && (!(u == v) && (!decide (x < 0) && (!decide (mid < 0) && okO (wayP t.l u v) x))))
theorem putT_eq (t : TP) (u v x mid : Int) : putT t u v x mid = if putsIt t u v x mid = true then { t with l := dropW t.l u v ++ [⟨u, v, ⟨x, mid, -1⟩⟩] } else t := rfl
theorem putsIt_so {t : TP} {u v x mid : Int} (h : putsIt t u v x mid = true) : isP t u = true ∧ isP t v = true ∧ u ≠ v ∧ 0 ≤ x ∧ 0 ≤ mid ∧ okO (wayP t.l u v) x = true := by
 unfold putsIt at h
 simp only [Bool.and_eq_true, Bool.not_eq_true', beq_eq_false_iff_ne, decide_eq_false_iff_not] at h
 obtain ⟨h1, h2, h3, h4, h5, h6⟩ := h
 exact ⟨h1, h2, h3, by omega, by omega, h6⟩
theorem mem_dropW {l : List S156} {u v : Int} {y : S156} : y ∈ dropW l u v ↔ y ∈ l ∧ ¬ (y.f0 = u ∧ y.f1 = v) := by
 unfold dropW
 rw [List.mem_filter]
 simp only [Bool.or_eq_true, bne_iff_ne, ne_eq]
 constructor
 ·rintro ⟨h1, h2⟩
  exact ⟨h1, fun f => h2.elim (fun g => g f.1) (fun g => g f.2)⟩
 ·rintro ⟨h1, h2⟩
  refine ⟨h1, ?_⟩
  by_cases e : y.f0 = u
  ·exact .inr (fun f => h2 ⟨e, f⟩)
  ·exact .inl e
theorem putT_is (t : TP) (u v x mid : Int) : (putT t u v x mid).n = t.n ∧ (putT t u v x mid).inn = t.inn ∧ (putT t u v x mid).lost = t.lost := by
 rw [putT_eq]; split <;> exact ⟨rfl, rfl, rfl⟩
theorem isP_of {t t' : TP} (h1 : t'.n = t.n) (h2 : t'.inn = t.inn) (v : Int) : isP t' v = isP t v := by unfold isP; rw [h1, h2]
theorem putT_isP (t : TP) (u v x mid z : Int) : isP (putT t u v x mid) z = isP t z := isP_of (putT_is t u v x mid).1 (putT_is t u v x mid).2.1 z
theorem putT_len (t : TP) (u v x mid : Int) : (putT t u v x mid).l.length ≤ t.l.length + 1 := by
 rw [putT_eq]
 split
 ·have := List.length_filter_le (fun y : S156 => y.f0 != u || y.f1 != v) t.l
  simp only [List.length_append, List.length_singleton, dropW]
  omega
 ·omega
theorem putT_mem {t : TP} {u v x mid : Int} {y : S156} (h : y ∈ (putT t u v x mid).l) : y ∈ t.l ∨ (y = ⟨u, v, ⟨x, mid, -1⟩⟩ ∧ isP t u = true ∧ isP t v = true ∧ u ≠ v ∧ 0 ≤ x) := by
 rw [putT_eq] at h
 by_cases hp : putsIt t u v x mid = true
 ·rw [if_pos hp] at h
  obtain ⟨h1, h2, h3, h4, h5, h6⟩ := putsIt_so hp
  rcases List.mem_append.1 h with h | h
  ·exact .inl (mem_dropW.1 h).1
  ·exact .inr ⟨by simpa using h, h1, h2, h3, h4⟩
 ·rw [if_neg hp] at h
  exact .inl h
theorem putT_ok {n : Nat} {wm : Int} {t : TP} (h : TOk n wm t) (u v x mid : Int) (hx : x ≤ wm) : TOk n wm (putT t u v x mid) := by
 refine ⟨(putT_is t u v x mid).1.trans h.nn, by rw [(putT_is t u v x mid).2.1]; exact h.il, fun y hy => ?_, ?_⟩
 ·rw [putT_isP, putT_isP]
  rcases putT_mem hy with hy | ⟨rfl, h1, h2, h3, h4⟩
  ·exact h.ends y hy
  ·exact ⟨h1, h2, h3, h4, hx⟩
 ·rw [putT_eq]
  by_cases hp : putsIt t u v x mid = true
  ·rw [if_pos hp]
   intro a ha b hb e0 e1
   rcases List.mem_append.1 ha with ha | ha
   ·rcases List.mem_append.1 hb with hb | hb
    ·exact h.uniq a (mem_dropW.1 ha).1 b (mem_dropW.1 hb).1 e0 e1
    ·simp only [List.mem_singleton] at hb
     subst hb
     exact absurd ⟨e0, e1⟩ (mem_dropW.1 ha).2
   ·simp only [List.mem_singleton] at ha
    rcases List.mem_append.1 hb with hb | hb
    ·subst ha
     exact absurd ⟨e0.symm, e1.symm⟩ (mem_dropW.1 hb).2
    ·simp only [List.mem_singleton] at hb
     rw [ha, hb]
  ·rw [if_neg hp]
   exact h.uniq
theorem putT_dom {n : Nat} {wm : Int} {t : TP} (h : TOk n wm t) (u v x mid : Int) {y : S156} (hy : y ∈ t.l) : ∃ z ∈ (putT t u v x mid).l, z.f0 = y.f0 ∧ z.f1 = y.f1 ∧ z.f2.f0 ≤ y.f2.f0 ∧ (¬ (y.f0 = u ∧ y.f1 = v) → z = y) := by
 rw [putT_eq]
 by_cases hp : putsIt t u v x mid = true
 ·rw [if_pos hp]
  obtain ⟨h1, h2, h3, h4, h5, h6⟩ := putsIt_so hp
  by_cases e : y.f0 = u ∧ y.f1 = v
  ·refine ⟨⟨u, v, ⟨x, mid, -1⟩⟩, by simp, e.1.symm, e.2.symm, ?_, fun f => absurd e f⟩
   have hw := h.way hy
   rw [e.1, e.2] at hw
   rw [hw] at h6
   simp only [okO, Bool.not_eq_true', decide_eq_false_iff_not] at h6
   simp only
   omega
  ·exact ⟨y, List.mem_append.2 (.inl (mem_dropW.2 ⟨hy, e⟩)), rfl, rfl, Int.le_refl _, fun _ => rfl⟩
 ·rw [if_neg hp]
  exact ⟨y, hy, rfl, rfl, Int.le_refl _, fun _ => rfl⟩
theorem putT_has {n : Nat} {wm : Int} {t : TP} (h : TOk n wm t) (u v x mid : Int) (h1 : isP t u = true) (h2 : isP t v = true) (h3 : u ≠ v) (h4 : 0 ≤ x) (h5 : 0 ≤ mid) : ∃ z ∈ (putT t u v x mid).l, z.f0 = u ∧ z.f1 = v ∧ z.f2.f0 ≤ x := by
 rw [putT_eq]
 by_cases hp : putsIt t u v x mid = true
 ·rw [if_pos hp]
  exact ⟨⟨u, v, ⟨x, mid, -1⟩⟩, by simp, rfl, rfl, Int.le_refl _⟩
 ·rw [if_neg hp]
  unfold putsIt at hp
  rw [h1, h2, show (u == v) = false from by simpa using h3, show decide (x < 0) = false from by simpa using h4, show decide (mid < 0) = false from by simpa using h5] at hp
  simp only [Bool.true_and, Bool.not_false] at hp
  cases hw : wayP t.l u v with
  | none => rw [hw] at hp; simp [okO] at hp
  | some o =>
   rw [hw] at hp
   simp only [okO, Bool.not_eq_true', Bool.not_eq_true, decide_eq_true_eq, Bool.not_eq_false', Bool.not_eq_false] at hp
   obtain ⟨z, hz, e0, e1, e2⟩ := wayP_some hw
   exact ⟨z, hz, e0, e1, by rw [e2]; simpa using hp⟩
def putsT : TP → List S71 → TP
 | t, [] => t
 | t, s :: L => putsT (putT t s.f0 s.f1 s.f2.f0 s.f2.f1) L
theorem putsT_is : ∀ (L : List S71) (t : TP), (putsT t L).n = t.n ∧ (putsT t L).inn = t.inn ∧ (putsT t L).l.length ≤ t.l.length + L.length
 | [], t => ⟨rfl, rfl, Nat.le_refl _⟩
 | s :: L, t => by
  obtain ⟨h1, h2, h3⟩ := putsT_is L (putT t s.f0 s.f1 s.f2.f0 s.f2.f1)
  obtain ⟨g1, g2, _⟩ := putT_is t s.f0 s.f1 s.f2.f0 s.f2.f1
  have := putT_len t s.f0 s.f1 s.f2.f0 s.f2.f1
  exact ⟨h1.trans g1, h2.trans g2, by simp only [putsT, List.length_cons]; omega⟩
theorem putsT_isP (L : List S71) (t : TP) (z : Int) : isP (putsT t L) z = isP t z := isP_of (putsT_is L t).1 (putsT_is L t).2.1 z
theorem putsT_mem : ∀ (L : List S71) (t : TP) (y : S156), y ∈ (putsT t L).l → y ∈ t.l ∨ ∃ s ∈ L, y = ⟨s.f0, s.f1, ⟨s.f2.f0, s.f2.f1, -1⟩⟩ ∧ isP t s.f0 = true ∧ isP t s.f1 = true
 | [], t, y, h => .inl h
 | s :: L, t, y, h => by
  rcases putsT_mem L _ y h with h | ⟨s', hs', e, h1, h2⟩
  ·rcases putT_mem h with h | ⟨e, h1, h2, _⟩
   ·exact .inl h
   ·exact .inr ⟨s, by simp, e, h1, h2⟩
  ·rw [putT_isP] at h1 h2
   exact .inr ⟨s', by simp [hs'], e, h1, h2⟩
theorem putsT_ok {n : Nat} {wm : Int} : ∀ (L : List S71) (t : TP), TOk n wm t → (∀ s ∈ L, s.f2.f0 ≤ wm) → TOk n wm (putsT t L)
 | [], t, h, _ => h
 | s :: L, t, h, hs => putsT_ok L _ (putT_ok h s.f0 s.f1 s.f2.f0 s.f2.f1 (hs s (by simp))) (fun x hx => hs x (by simp [hx]))
theorem putsT_dom {n : Nat} {wm : Int} : ∀ (L : List S71) (t : TP), TOk n wm t → (∀ s ∈ L, s.f2.f0 ≤ wm) → ∀ y ∈ t.l, ∃ z ∈ (putsT t L).l, z.f0 = y.f0 ∧ z.f1 = y.f1 ∧ z.f2.f0 ≤ y.f2.f0 ∧ ((∀ s ∈ L, ¬ (y.f0 = s.f0 ∧ y.f1 = s.f1)) → z = y)
 | [], t, h, _, y, hy => ⟨y, hy, rfl, rfl, Int.le_refl _, fun _ => rfl⟩
 | s :: L, t, h, hs, y, hy => by
  obtain ⟨z, hz, e0, e1, e2, e3⟩ := putT_dom h s.f0 s.f1 s.f2.f0 s.f2.f1 hy
  obtain ⟨u, hu, f0, f1, f2, f3⟩ := putsT_dom L _ (putT_ok h s.f0 s.f1 s.f2.f0 s.f2.f1 (hs s (by simp))) (fun x hx => hs x (by simp [hx])) z hz
  refine ⟨u, hu, f0.trans e0, f1.trans e1, by omega, fun g => ?_⟩
  have hzy := e3 (g s (by simp))
  rw [f3 (fun x hx => by rw [hzy]; exact g x (by simp [hx])), hzy]
theorem putsT_has {n : Nat} {wm : Int} : ∀ (L : List S71) (t : TP), TOk n wm t → (∀ s ∈ L, s.f2.f0 ≤ wm) → ∀ s ∈ L, isP t s.f0 = true → isP t s.f1 = true → s.f0 ≠ s.f1 → 0 ≤ s.f2.f0 → 0 ≤ s.f2.f1 → ∃ z ∈ (putsT t L).l, z.f0 = s.f0 ∧ z.f1 = s.f1 ∧ z.f2.f0 ≤ s.f2.f0
 | [], t, h, _, s, hs, _, _, _, _, _ => by simp at hs
 | x :: L, t, h, hL, s, hs, h1, h2, h3, h4, h5 => by
  have ho := putT_ok h x.f0 x.f1 x.f2.f0 x.f2.f1 (hL x (by simp))
  rcases List.mem_cons.1 hs with rfl | hs
  ·obtain ⟨z, hz, e0, e1, e2⟩ := putT_has h s.f0 s.f1 s.f2.f0 s.f2.f1 h1 h2 h3 h4 h5
   obtain ⟨u, hu, f0, f1, f2, _⟩ := putsT_dom L _ ho (fun y hy => hL y (by simp [hy])) z hz
   exact ⟨u, hu, f0.trans e0, f1.trans e1, by omega⟩
  ·exact putsT_has L _ ho (fun y hy => hL y (by simp [hy])) s hs (by rw [putT_isP]; exact h1) (by rw [putT_isP]; exact h2) h3 h4 h5
structure NeedOk (n : Nat) (t : TP) (v : Int) (L : List S71) : Prop where
 len : L.length ≤ n * n
 sound : ∀ s ∈ L, s.f0 ≠ s.f1 ∧ s.f2.f1 = v ∧ ∃ x ∈ t.l, ∃ y ∈ t.l, x.f0 = s.f0 ∧ x.f1 = v ∧ y.f0 = v ∧ y.f1 = s.f1 ∧ s.f2.f0 = x.f2.f0 + y.f2.f0
 full : ∀ x ∈ t.l, ∀ y ∈ t.l, x.f1 = v → y.f0 = v → x.f0 ≠ y.f1 → (∃ s ∈ L, s.f0 = x.f0 ∧ s.f1 = y.f1 ∧ s.f2.f0 = x.f2.f0 + y.f2.f0) ∨ ∃ d, d ≤ x.f2.f0 + y.f2.f0 ∧ Wk (ELw t.l v) x.f0 y.f1 d
structure TakeOk (t : TP) (v : Int) (t' : TP) : Prop where
 n : t'.n = t.n
 inn : t'.inn = t.inn.set v.toNat 0
 l : t'.l = t.l.filter fun y => y.f0 != v && y.f1 != v
 lost : t'.lost.length = t.lost.length
def outW (t : TP) (v : Int) : List S71 := (rowB t.n fun x => (wayP t.l v x).isSome).map fun x => ⟨v, x, (wayP t.l v x).getD ⟨0, 0, 0⟩⟩
def inW (t : TP) (v : Int) : List S71 := (rowB t.n fun x => (wayP t.l x v).isSome).map fun x => ⟨x, v, (wayP t.l x v).getD ⟨0, 0, 0⟩⟩
theorem mem_outW {t : TP} {v : Int} {z : S71} (h : z ∈ outW t v) : z.f0 = v ∧ (⟨z.f0, z.f1, z.f2⟩ : S156) ∈ t.l := by
 unfold outW at h
 obtain ⟨x, hx, rfl⟩ := List.mem_map.1 h
 obtain ⟨_, _, h2⟩ := rowB_mem.1 hx
 refine ⟨rfl, ?_⟩
 cases hw : wayP t.l v x with
 | none => rw [hw] at h2; cases h2
 | some o =>
  obtain ⟨y, hy, e0, e1, e2⟩ := wayP_some hw
  simp only [Option.getD_some]
  rw [← e0, ← e1, ← e2]
  exact hy
theorem mem_inW {t : TP} {v : Int} {z : S71} (h : z ∈ inW t v) : z.f1 = v ∧ (⟨z.f0, z.f1, z.f2⟩ : S156) ∈ t.l := by
 unfold inW at h
 obtain ⟨x, hx, rfl⟩ := List.mem_map.1 h
 obtain ⟨_, _, h2⟩ := rowB_mem.1 hx
 refine ⟨rfl, ?_⟩
 cases hw : wayP t.l x v with
 | none => rw [hw] at h2; cases h2
 | some o =>
  obtain ⟨y, hy, e0, e1, e2⟩ := wayP_some hw
  simp only [Option.getD_some]
  rw [← e0, ← e1, ← e2]
  exact hy
theorem outW_has {n : Nat} {wm : Int} {t : TP} (h : TOk n wm t) {y : S156} (hy : y ∈ t.l) : (⟨y.f0, y.f1, y.f2⟩ : S71) ∈ outW t y.f0 := by
 unfold outW
 have hw := h.way hy
 have hi := isP_in (h.ends y hy).2.1
 exact List.mem_map.2 ⟨y.f1, rowB_mem.2 ⟨hi.1, hi.2, by rw [hw]; rfl⟩, by rw [hw]; rfl⟩
theorem inW_has {n : Nat} {wm : Int} {t : TP} (h : TOk n wm t) {y : S156} (hy : y ∈ t.l) : (⟨y.f0, y.f1, y.f2⟩ : S71) ∈ inW t y.f1 := by
 unfold inW
 have hw := h.way hy
 have hi := isP_in (h.ends y hy).1
 exact List.mem_map.2 ⟨y.f0, rowB_mem.2 ⟨hi.1, hi.2, by rw [hw]; rfl⟩, by rw [hw]; rfl⟩
theorem rowB_pair (f : Int → Bool) : ∀ n : Nat, (rowB n f).Pairwise (fun a b => a < b)
 | 0 => by simp [rowB]
 | n + 1 => by
  have ih := rowB_pair f n
  cases hf : f (n : Int) with
  | false => rw [rowB_no hf]; exact ih
  | true =>
   rw [rowB_yes hf, List.pairwise_append]
   exact ⟨ih, by simp, fun a ha b hb => by
    have := (rowB_mem.1 ha).2.1
    simp only [List.mem_singleton] at hb
    omega⟩
def Differ (x y : S71) : Prop := ¬ (x.f0 = y.f0 ∧ x.f1 = y.f1)
theorem outW_pair (t : TP) (v : Int) : (outW t v).Pairwise Differ := by
 unfold outW
 rw [List.pairwise_map]
 exact (rowB_pair _ _).imp (fun h f => by have := f.2; simp only at this; omega)
theorem inW_pair (t : TP) (v : Int) : (inW t v).Pairwise Differ := by
 unfold inW
 rw [List.pairwise_map]
 exact (rowB_pair _ _).imp (fun h f => by have := f.1; simp only at this; omega)
def wmR : Nat → Int
 | 0 => 2147483648
 | r + 1 => wmR r + wmR r
theorem wmR_pos : ∀ r : Nat, 2147483648 ≤ wmR r
 | 0 => Int.le_refl _
 | r + 1 => by have := wmR_pos r; simp only [wmR]; omega
theorem wmR_top {r : Nat} (h : r ≤ 12) : wmR r ≤ 8796093022208 := by
 have : ∀ r : Nat, r ≤ 12 → wmR r ≤ wmR 12 := fun r hr => by
  obtain ⟨k, hk⟩ : ∃ k, 12 = r + k := ⟨12 - r, by omega⟩
  rw [hk]
  clear hk hr
  induction k with
  | zero => exact Int.le_refl _
  | succ k ih => have := wmR_pos (r + k); rw [← Nat.add_assoc]; simp only [wmR]; omega
 exact Int.le_trans (this r h) (by decide)
structure LowEnd (t : TP) (rk : List Int) (x : S71) (e o : Int) : Prop where
 are : x.f0 = e ∧ x.f1 = o ∨ x.f0 = o ∧ x.f1 = e
 e0 : 0 ≤ e
 e1 : e < t.n
 et : isP t e = false
 o0 : 0 ≤ o
 o1 : o < t.n
 ot : isP t o = true ∨ isP t o = false ∧ rd rk e < rd rk o
def Halves (H : List S71) (m a b w : Int) : Prop := ∃ x ∈ H, ∃ y ∈ H, x.f0 = a ∧ x.f1 = m ∧ y.f0 = m ∧ y.f1 = b ∧ x.f2.f0 + y.f2.f0 = w
theorem Halves.mono {H K : List S71} {m a b w : Int} (h : Halves H m a b w) (hs : ∀ x ∈ H, x ∈ K) : Halves K m a b w := by
 obtain ⟨x, hx, y, hy, r⟩ := h
 exact ⟨x, hs x hx, y, hs y hy, r⟩
def Plain (x : S69) : Prop := x.f1 = -1 ∧ 0 ≤ x.f2 ∧ x.f2 < 67108864
structure ByMid (n : Nat) (t : TP) (H : List S71) (a b : Int) (x : S69) : Prop where
 mid : x.f1 ≠ -1
 arc : x.f2 = -1
 m0 : 0 ≤ x.f1
 m1 : x.f1 < n
 mt : isP t x.f1 = false
 half : Halves H x.f1 a b x.f0
structure Later (n : Nat) (t : TP) (r : Nat) (rk : List Int) (H : List S71) (rk' : List Int) (H' : List S71) : Prop where
 sub : ∀ x ∈ H, x ∈ H'
 same : ∀ v : Nat, v < n → isP t (v : Int) = false → rd rk' (v : Int) = rd rk (v : Int)
 later : ∀ v : Nat, v < n → isP t (v : Int) = true → (r : Int) ≤ rd rk' (v : Int)
structure BI (n : Nat) (E0 : Int → Int → Int → Prop) (r : Nat) (t : TP) (rk : List Int) (H : List S71) : Prop where
 ok : TOk n (wmR r) t
 cnt : (placesP t).length + r = n
 rl : rk.length = n
 llen : t.l.length ≤ 1000 + n * n * r
 hlen : H.length ≤ 2 * n * r
 tak : ∀ v : Nat, v < n → isP t (v : Int) = false → 0 ≤ rd rk (v : Int) ∧ rd rk (v : Int) < r
 inj : ∀ u v : Nat, u < n → v < n → isP t (u : Int) = false → isP t (v : Int) = false → rd rk (u : Int) = rd rk (v : Int) → u = v
 hw : ∀ x ∈ H, 0 ≤ x.f2.f0 ∧ x.f2.f0 ≤ wmR r ∧ x.f0 ≠ x.f1 ∧ ∃ e o, LowEnd t rk x e o ∧ (Plain x.f2 ∨ ByMid n t H x.f0 x.f1 x.f2 ∧ rd rk x.f2.f1 < rd rk e)
 tr : ∀ y ∈ t.l, Plain y.f2 ∨ ByMid n t H y.f0 y.f1 y.f2
 uniq : H.Pairwise Differ
 st : ∀ y ∈ t.l, Wk E0 y.f0 y.f1 y.f2.f0
 sh : ∀ x ∈ H, Wk E0 x.f0 x.f1 x.f2.f0
 cmp : ∀ rk' H', Later n t r rk H rk' H' → (∀ s u d, isP t s = true → isP t u = true → Wk (EL t.l) s u d → ∃ d', d' ≤ d ∧ UD rk' H' s u d') → ∀ s u d, 0 ≤ s → s < n → 0 ≤ u → u < n → Wk E0 s u d → ∃ d', d' ≤ d ∧ UD rk' H' s u d'
theorem TOk.mono {n : Nat} {wm wm' : Int} {t : TP} (h : TOk n wm t) (hw : wm ≤ wm') : TOk n wm' t :=
 ⟨h.nn, h.il, fun x hx => by obtain ⟨h1, h2, h3, h4, h5⟩ := h.ends x hx; exact ⟨h1, h2, h3, h4, by omega⟩, h.uniq⟩
theorem rowB_drop {f g : Int → Bool} {v : Nat} (hv : f (v : Int) = true) (hg : ∀ x : Nat, g (x : Int) = (f (x : Int) && decide ((x : Int) ≠ v))) : ∀ n : Nat, (rowB n g).length + (if v < n then 1 else 0) = (rowB n f).length
 | 0 => by simp [rowB]
 | n + 1 => by
  have ih := rowB_drop hv hg n
  by_cases e : n = v
  ·subst e
   rw [rowB_yes hv, rowB_no (by rw [hg]; simp)]
   simp at ih ⊢
   omega
  ·have hgn : g (n : Int) = f (n : Int) := by
                         rw [hg]; have : ((n : Int) ≠ v) := by omega
                         simp [this]
   cases hf : f (n : Int) with
   | false =>
    rw [rowB_no hf, rowB_no (hgn.trans hf), ← ih]
    congr 1
    by_cases h : v < n
    ·rw [if_pos h, if_pos (by omega)]
    ·rw [if_neg h, if_neg (by omega)]
   | true =>
    rw [rowB_yes hf, rowB_yes (hgn.trans hf), List.length_append, List.length_append, ← ih]
    simp only [List.length_singleton]
    by_cases h : v < n
    ·rw [if_pos h, if_pos (by omega)]
    ·rw [if_neg h, if_neg (by omega)]
structure Round1 (n : Nat) (r : Nat) (t : TP) (v : Nat) (L : List S71) (t1 t' : TP) : Prop where
 vn : v < n
 vt : isP t (v : Int) = true
 ok1 : TOk n (wmR (r + 1)) t1
 is1 : ∀ z, isP t1 z = isP t z
 inn1 : t1.inn = t.inn
 is' : ∀ z, isP t' z = (isP t z && decide (z ≠ v))
 at1 : ∀ y ∈ t1.l, y.f0 = v ∨ y.f1 = v → y ∈ t.l
 at0 : ∀ y ∈ t.l, y.f0 = v ∨ y.f1 = v → y ∈ t1.l
 l' : ∀ y, y ∈ t'.l ↔ y ∈ t1.l ∧ y.f0 ≠ v ∧ y.f1 ≠ v
theorem NeedOk.ends {n : Nat} {wm : Int} {t : TP} {v : Int} {L : List S71} (h : NeedOk n t v L) (ok : TOk n wm t) : ∀ s ∈ L, isP t s.f0 = true ∧ isP t s.f1 = true ∧ s.f0 ≠ s.f1 ∧ s.f0 ≠ v ∧ s.f1 ≠ v ∧ 0 ≤ s.f2.f0 ∧ s.f2.f0 ≤ wm + wm ∧ s.f2.f1 = v := fun s hs => by
 obtain ⟨h1, h2, x, hx, y, hy, e0, e1, e2, e3, e4⟩ := h.sound s hs
 obtain ⟨a1, a2, a3, a4, a5⟩ := ok.ends x hx
 obtain ⟨b1, b2, b3, b4, b5⟩ := ok.ends y hy
 exact ⟨by rw [← e0]; exact a1, by rw [← e3]; exact b2, h1, fun f => a3 (by rw [e0, f, e1]), fun f => b3 (by rw [e2, e3, f]), by omega, by omega, h2⟩
theorem Round1.of {n r : Nat} {t t' : TP} {v : Nat} {L : List S71} (ok : TOk n (wmR r) t) (hv : isP t (v : Int) = true) (hL : NeedOk n t v L) (ht : TakeOk (putsT t L) v t') : Round1 n r t v L (putsT t L) t' := by
 have hin := isP_in hv
 have hnn := ok.nn
 have hends := hL.ends ok
 have hok : TOk n (wmR (r + 1)) t := ok.mono (by have := wmR_pos r; simp only [wmR]; omega)
 have hle : ∀ s ∈ L, s.f2.f0 ≤ wmR (r + 1) := fun s hs => (hends s hs).2.2.2.2.2.2.1
 refine ⟨by omega, hv, putsT_ok L t hok hle, fun z => putsT_isP L t z, (putsT_is L t).2.1, fun z => ?_, fun y hy hyv => ?_, fun y hy hyv => ?_, fun y => ?_⟩
 ·have hil := ok.il
  have e1 := ht.n.trans (putsT_is L t).1
  have e2 := ht.inn
  rw [(putsT_is L t).2.1] at e2
  unfold isP
  rw [e1, e2]
  by_cases h0 : 0 ≤ z
  ·obtain ⟨z, rfl⟩ := Int.eq_ofNat_of_zero_le h0
   by_cases h1 : z < t.n
   ·by_cases h2 : v = z
    ·subst h2
     rw [Int.toNat_natCast, rd_set_same _ (by omega)]
     simp
    ·rw [Int.toNat_natCast, rd_set_other _ h2]
     have : ¬ ((z : Int) = v) := by omega
     simp [this]
   ·have : ¬ ((z : Int) < t.n) := by omega
    simp [this]
  ·simp [h0]
 ·rcases putsT_mem L t y hy with h | ⟨s, hs, e, _⟩
  ·exact h
  ·obtain ⟨_, _, _, k1, k2, _⟩ := hends s hs
   rw [e] at hyv
   exact (hyv.elim k1 k2).elim
 ·obtain ⟨z, hz, _, _, _, e⟩ := putsT_dom L t hok hle y hy
  rw [e (fun s hs f => by
   obtain ⟨_, _, _, k1, k2, _⟩ := hends s hs
   rcases hyv with h | h
   ·exact k1 (f.1.symm.trans h)
   ·exact k2 (f.2.symm.trans h))] at hz
  exact hz
 ·rw [ht.l, List.mem_filter]
  simp
theorem rank_set {rk : List Int} {n r v : Nat} (hl : rk.length = n) (hv : v < n) (z : Nat) : rd (rk.set v (r : Int)) (z : Int) = if v = z then (r : Int) else rd rk (z : Int) := by
 by_cases e : v = z
 ·subst e; rw [if_pos rfl, rd_set_same _ (by omega)]
 ·rw [if_neg e, rd_set_other _ e]
set_option maxHeartbeats 1000000 in
theorem BI.step {n r : Nat} {E0 : Int → Int → Int → Prop} {t t' : TP} {rk : List Int} {H L : List S71} {v : Nat} (h : BI n E0 r t rk H) (hv : isP t (v : Int) = true) (hL : NeedOk n t v L) (ht : TakeOk (putsT t L) v t') :
  BI n E0 (r + 1) t' (rk.set v r) (H ++ outW (putsT t L) v ++ inW (putsT t L) v) := by
 have R := Round1.of h.ok hv hL ht
 have hends := hL.ends h.ok
 have hnn := h.ok.nn
 have hn' : t'.n = n := ht.n.trans ((putsT_is L t).1.trans hnn)
 obtain ⟨t1, ht1⟩ : ∃ t1, putsT t L = t1 := ⟨_, rfl⟩
 have hmem1 : ∀ y ∈ t1.l, y ∈ t.l ∨ ∃ s ∈ L, y = ⟨s.f0, s.f1, ⟨s.f2.f0, s.f2.f1, -1⟩⟩ := fun y hy => by
  rw [← ht1] at hy
  rcases putsT_mem L t y hy with h | ⟨s, hs, e, _⟩
  ·exact .inl h
  ·exact .inr ⟨s, hs, e⟩
 have hlen1 : t1.l.length ≤ t.l.length + L.length := by rw [← ht1]; exact (putsT_is L t).2.2
 have hn1 : t1.n = n := by rw [← ht1]; exact (putsT_is L t).1.trans hnn
 have hok' : TOk n (wmR (r + 1)) t := h.ok.mono (by have := wmR_pos r; simp only [wmR]; omega)
 have hdom : ∀ y ∈ t.l, ∃ z ∈ t1.l, z.f0 = y.f0 ∧ z.f1 = y.f1 ∧ z.f2.f0 ≤ y.f2.f0 := fun y hy => by
  obtain ⟨z, hz, a, b, c, _⟩ := putsT_dom L t hok' (fun s hs => (hends s hs).2.2.2.2.2.2.1) y hy
  exact ⟨z, by rw [← ht1]; exact hz, a, b, c⟩
 have hhas : ∀ s ∈ L, ∃ z ∈ t1.l, z.f0 = s.f0 ∧ z.f1 = s.f1 ∧ z.f2.f0 ≤ s.f2.f0 := fun s hs => by
  obtain ⟨k1, k2, k3, k4, k5, k6, k7, k8⟩ := hends s hs
  obtain ⟨z, hz, r⟩ := putsT_has L t hok' (fun s hs => (hends s hs).2.2.2.2.2.2.1) s hs k1 k2 k3 k6 (by rw [k8]; exact Int.natCast_nonneg _)
  exact ⟨z, by rw [← ht1]; exact hz, r⟩
 rw [ht1] at R ht ⊢
 clear ht1
 have hrk := fun z : Nat => rank_set (r := r) h.rl R.vn z
 have hrkI : ∀ z : Int, 0 ≤ z → isP t z = false → rd (rk.set v r) z = rd rk z := fun z h0 hz => by
  obtain ⟨z, rfl⟩ := Int.eq_ofNat_of_zero_le h0
  rw [hrk, if_neg (fun e => by subst e; rw [hv] at hz; cases hz)]
 have hvr : rd (rk.set v r) (v : Int) = r := by rw [hrk, if_pos rfl]
 have taken : ∀ z, isP t z = false → isP t' z = false := fun z hz => by rw [R.is', hz]; rfl
 have leftn : ∀ z, isP t z = true → z ≠ v → isP t' z = true := fun z hz hne => by rw [R.is', hz]; simpa using hne
 have vtak : isP t' (v : Int) = false := by rw [R.is']; simp
 have hout : ∀ z ∈ outW t1 v, z.f0 = v ∧ (⟨z.f0, z.f1, z.f2⟩ : S156) ∈ t.l ∧ z.f1 ≠ v := fun z hz => by
  obtain ⟨h1, h2⟩ := mem_outW hz
  have h3 := R.at1 _ h2 (.inl h1)
  exact ⟨h1, h3, fun f => (h.ok.ends _ h3).2.2.1 (h1.trans f.symm)⟩
 have hin : ∀ z ∈ inW t1 v, z.f1 = v ∧ (⟨z.f0, z.f1, z.f2⟩ : S156) ∈ t.l ∧ z.f0 ≠ v := fun z hz => by
  obtain ⟨h1, h2⟩ := mem_inW hz
  have h3 := R.at1 _ h2 (.inr h1)
  exact ⟨h1, h3, fun f => (h.ok.ends _ h3).2.2.1 (f.trans h1.symm)⟩
 have hasO : ∀ y ∈ t.l, y.f0 = v → (⟨y.f0, y.f1, y.f2⟩ : S71) ∈ H ++ outW t1 v ++ inW t1 v := fun y hy e => by
  have := outW_has R.ok1 (R.at0 y hy (.inl e))
  rw [e] at this ⊢
  exact List.mem_append.2 (.inl (List.mem_append.2 (.inr this)))
 have hasI : ∀ y ∈ t.l, y.f1 = v → (⟨y.f0, y.f1, y.f2⟩ : S71) ∈ H ++ outW t1 v ++ inW t1 v := fun y hy e => by
  have := inW_has R.ok1 (R.at0 y hy (.inr e))
  rw [e] at this ⊢
  exact List.mem_append.2 (.inr this)
 have hsub : ∀ x ∈ H, x ∈ H ++ outW t1 v ++ inW t1 v := fun x hx => by simp [hx]
 have hnew : ∀ x ∈ H ++ outW t1 v ++ inW t1 v, x ∈ H ∨ (x ∈ outW t1 v ∨ x ∈ inW t1 v) := fun x hx => by
  simp only [List.mem_append] at hx
  rcases hx with (hx | hx) | hx
  ·exact .inl hx
  ·exact .inr (.inl hx)
  ·exact .inr (.inr hx)
 have hnewT : ∀ x, (x ∈ outW t1 v ∨ x ∈ inW t1 v) → (⟨x.f0, x.f1, x.f2⟩ : S156) ∈ t.l := fun x hx => hx.elim (fun g => (hout x g).2.1) (fun g => (hin x g).2.1)
 have hbm : ∀ a b x, ByMid n t H a b x → ByMid n t' (H ++ outW t1 v ++ inW t1 v) a b x := fun a b x g => ⟨g.mid, g.arc, g.m0, g.m1, taken _ g.mt, g.half.mono hsub⟩
 have hpos := wmR_pos r
 have hwm : wmR (r + 1) = wmR r + wmR r := rfl
 refine ⟨⟨hn', by rw [ht.inn]; simp only [List.length_set]; exact R.ok1.il, fun x hx => ?_, fun x hx y hy => ?_⟩, ?_, by simp [h.rl], ?_, ?_, ?_, ?_, ?_, ?_, ?_, ?_, ?_, ?_⟩
 ·obtain ⟨h1, h2, h3⟩ := (R.l' x).1 hx
  obtain ⟨g1, g2, g3, g4, g5⟩ := R.ok1.ends x h1
  rw [R.is1] at g1 g2
  exact ⟨leftn _ g1 h2, leftn _ g2 h3, g3, g4, g5⟩
 ·exact R.ok1.uniq x ((R.l' x).1 hx).1 y ((R.l' y).1 hy).1
 ·have hd := rowB_drop (f := fun x => decide (rd t.inn x = 1)) (g := fun x => decide (rd t'.inn x = 1)) (v := v) (by have := hv; unfold isP at this; simp at this; simpa using this.2) (fun x => ?_) n
  ·rw [if_pos R.vn] at hd
   have hc := h.cnt
   unfold placesP at hc ⊢
   rw [hnn] at hc
   rw [hn']
   omega
  ·rw [ht.inn, R.inn1]
   have hil := h.ok.il
   have hvn := R.vn
   by_cases e : v = x
   ·subst e
    rw [Int.toNat_natCast, rd_set_same _ (by omega)]
    simp
   ·rw [Int.toNat_natCast, rd_set_other _ e]
    have : ((x : Int) ≠ v) := by omega
    simp [this]
 ·have h1 := h.llen
  have h2 := hL.len
  have h3 : t'.l.length ≤ t1.l.length := by rw [ht.l]; exact List.length_filter_le _ _
  rw [show n * n * (r + 1) = n * n * r + n * n from by rw [Nat.mul_add, Nat.mul_one]]
  omega
 ·have h1 := h.hlen
  have h2 := rowB_len t1.n fun x => (wayP t1.l v x).isSome
  have h3 := rowB_len t1.n fun x => (wayP t1.l x v).isSome
  rw [hn1] at h2 h3
  have h4 : (outW t1 v).length ≤ n := by unfold outW; rw [List.length_map, hn1]; exact h2
  have h5 : (inW t1 v).length ≤ n := by unfold inW; rw [List.length_map, hn1]; exact h3
  simp only [List.length_append]
  rw [show 2 * n * (r + 1) = 2 * n * r + 2 * n from by rw [Nat.mul_add, Nat.mul_one]]
  omega
 ·intro z hz hzt
  by_cases e : v = z
  ·subst e
   rw [hvr]; omega
  ·rw [hrk, if_neg e]
   have : isP t (z : Int) = false := by
    rw [R.is'] at hzt
    have : ((z : Int) ≠ v) := by omega
    simpa [this] using hzt
   have := h.tak z hz this
   omega
 ·intro a b ha hb hat hbt e
  rw [hrk, hrk] at e
  have old : ∀ z : Nat, v ≠ z → isP t' (z : Int) = false → isP t (z : Int) = false := fun z hne hz => by
   rw [R.is'] at hz
   have : ((z : Int) ≠ v) := by omega
   simpa [this] using hz
  by_cases e1 : v = a
  ·by_cases e2 : v = b
   ·omega
   ·rw [if_pos e1, if_neg e2] at e
    have := h.tak b hb (old b e2 hbt)
    omega
  ·by_cases e2 : v = b
   ·rw [if_neg e1, if_pos e2] at e
    have := h.tak a ha (old a e1 hat)
    omega
   ·rw [if_neg e1, if_neg e2] at e
    exact h.inj a b ha hb (old a e1 hat) (old b e2 hbt) e
 ·intro x hx
  rcases hnew x hx with hx | hx
  ·obtain ⟨g1, g2, g3, e, o, g4, g5⟩ := h.hw x hx
   refine ⟨g1, by omega, g3, e, o, ⟨g4.are, g4.e0, by have := g4.e1; omega, taken _ g4.et, g4.o0, by have := g4.o1; omega, ?_⟩, ?_⟩
   ·rw [hrkI e g4.e0 g4.et]
    rcases g4.ot with k | ⟨k1, k2⟩
    ·by_cases ho : o = v
     ·right
      rw [ho]
      refine ⟨vtak, ?_⟩
      rw [hvr]
      have h0 := g4.e0
      obtain ⟨e, rfl⟩ := Int.eq_ofNat_of_zero_le h0
      exact (h.tak e (by have := g4.e1; omega) g4.et).2
     ·exact .inl (leftn _ k ho)
    ·right
     rw [hrkI o g4.o0 k1]
     exact ⟨taken _ k1, k2⟩
   ·rcases g5 with g5 | ⟨g5, g6⟩
    ·exact .inl g5
    ·exact .inr ⟨hbm _ _ _ g5, by rw [hrkI e g4.e0 g4.et, hrkI _ g5.m0 g5.mt]; exact g6⟩
  ·have hxt := hnewT x hx
   obtain ⟨g1, g2, g3, g4, g5⟩ := h.ok.ends _ hxt
   simp only at g1 g2 g3 g4 g5
   have i1 := isP_in g1
   have i2 := isP_in g2
   have key : ∃ o, (x.f0 = v ∧ x.f1 = o ∨ x.f0 = o ∧ x.f1 = v) ∧ isP t o = true ∧ o ≠ v ∧ 0 ≤ o ∧ o < t.n := by
    rcases hx with hx | hx
    ·obtain ⟨k1, _, k2⟩ := hout x hx
     exact ⟨x.f1, .inl ⟨k1, rfl⟩, g2, k2, i2.1, i2.2⟩
    ·obtain ⟨k1, _, k2⟩ := hin x hx
     exact ⟨x.f0, .inr ⟨rfl, k1⟩, g1, k2, i1.1, i1.2⟩
   obtain ⟨o, k1, k2, k3, k4, k5⟩ := key
   refine ⟨g4, by omega, g3, v, o, ⟨k1, by omega, by have := R.vn; omega, vtak, k4, by omega, .inl (leftn _ k2 k3)⟩, ?_⟩
   rcases h.tr _ hxt with k | k
   ·exact .inl k
   ·refine .inr ⟨hbm _ _ _ k, ?_⟩
    have h0 := k.m0
    have hm1 := k.m1
    have hmt := k.mt
    simp only at h0 hm1 hmt
    rw [hvr, hrkI _ h0 hmt]
    obtain ⟨m, hm⟩ := Int.eq_ofNat_of_zero_le h0
    rw [hm] at hm1 hmt ⊢
    exact (h.tak m (by omega) hmt).2
 ·intro y hy
  obtain ⟨h1, h2, h3⟩ := (R.l' y).1 hy
  rcases hmem1 y h1 with h1 | ⟨s, hs, rfl⟩
  ·rcases h.tr y h1 with k | k
   ·exact .inl k
   ·exact .inr (hbm _ _ _ k)
  ·right
   obtain ⟨k1, k2, a, ha, b, hb, e0, e1, e2, e3, e4⟩ := hL.sound s hs
   refine ⟨by simp only; omega, rfl, by simp only; omega, by simp only; have := R.vn; omega, by simp only; rw [k2]; exact vtak, ?_⟩
   simp only
   exact ⟨_, hasI a ha e1, _, hasO b hb e2, e0, by rw [k2]; exact e1, by rw [k2]; exact e2, e3, e4.symm⟩
 ·rw [List.append_assoc, List.pairwise_append]
  refine ⟨h.uniq, ?_, fun a ha b hb => ?_⟩
  ·rw [List.pairwise_append]
   exact ⟨outW_pair t1 v, inW_pair t1 v, fun a ha b hb f => (hin b hb).2.2 (f.1.symm.trans (hout a ha).1)⟩
  ·intro f
   have hb' := hnewT b (by simpa using hb)
   obtain ⟨g1, g2, _⟩ := h.ok.ends _ hb'
   simp only at g1 g2
   obtain ⟨_, _, _, e, o, g4, _⟩ := h.hw a ha
   have het := g4.et
   rcases g4.are with ⟨k1, k2⟩ | ⟨k1, k2⟩
   ·rw [← f.1, k1, het] at g1; cases g1
   ·rw [← f.2, k2, het] at g2; cases g2
 ·intro y hy
  obtain ⟨h1, h2, h3⟩ := (R.l' y).1 hy
  rcases hmem1 y h1 with h1 | ⟨s, hs, rfl⟩
  ·exact h.st y h1
  ·obtain ⟨k1, k2, a, ha, b, hb, e0, e1, e2, e3, e4⟩ := hL.sound s hs
   have w1 := h.st a ha
   have w2 := h.st b hb
   rw [e0, e1] at w1
   rw [e2, e3] at w2
   simp only
   rw [e4]
   exact w1.append w2
 ·intro x hx
  rcases hnew x hx with hx | hx
  ·exact h.sh x hx
  ·exact h.st _ (hnewT x hx)
 ·intro rk' H' ext hyp s u d s0 s1 u0 u1 hwk
  have hvr' : rd rk' (v : Int) = r := (ext.same v R.vn vtak).trans hvr
  have hlt : ∀ z, isP t z = true → z ≠ v → rd rk' (v : Int) < rd rk' z := fun z hz hne => by
   have hi := isP_in hz
   obtain ⟨z, rfl⟩ := Int.eq_ofNat_of_zero_le hi.1
   have := ext.later z (by omega) (leftn _ hz hne)
   rw [hvr']
   omega
  have hnon : ∀ a b w, EL t.l a b w → 0 ≤ w := fun a b w ⟨y, hy, e0, e1, e2⟩ => by have := (h.ok.ends y hy).2.2.2.1; omega
  have hdif : ∀ a b w, EL t.l a b w → a ≠ b := fun a b w ⟨y, hy, e0, e1, e2⟩ => by have := (h.ok.ends y hy).2.2.1; rw [e0, e1] at this; exact this
  have domT : ∀ a b w, EL t.l a b w → a ≠ v → b ≠ v → ∃ d, d ≤ w ∧ Wk (EL t'.l) a b d := fun a b w ⟨y, hy, e0, e1, e2⟩ ha hb => by
   obtain ⟨z, hz, f0, f1, f2⟩ := hdom y hy
   exact ⟨z.f2.f0, by omega, Wk.one ⟨z, (R.l' z).2 ⟨hz, by rw [f0, e0]; exact ha, by rw [f1, e1]; exact hb⟩, f0.trans e0, f1.trans e1, rfl⟩⟩
  have hskip : ∀ {a b d : Int}, a ≠ v → b ≠ v → Wk (EL t.l) a b d → ∃ d', d' ≤ d ∧ Wk (EL t'.l) a b d' := fun {a b d} ha hb => by
   refine skip (v : Int) hnon hdif domT ?_ ha hb
   rintro a b w x ⟨y, hy, e0, e1, e2⟩ ⟨z, hz, f0, f1, f2⟩ hab
   rcases hL.full y hy z hz e1 f0 (by rw [e0, f1]; exact hab) with ⟨s, hs, g0, g1, g2⟩ | ⟨d, hd, hwk⟩
   ·obtain ⟨q, hq, q0, q1, q2⟩ := hhas s hs
    obtain ⟨_, _, _, k4, k5, _⟩ := hends s hs
    exact ⟨q.f2.f0, by omega, Wk.one ⟨q, (R.l' q).2 ⟨hq, by rw [q0]; exact k4, by rw [q1]; exact k5⟩, by rw [q0, g0, e0], by rw [q1, g1, f1], rfl⟩⟩
   ·rw [e0, f1] at hwk
    obtain ⟨d', h1, h2⟩ := Wk.sub (F := EL t'.l) (fun a b w ⟨y, hy, e0, e1, e2, e3, e4⟩ => domT a b w ⟨y, hy, e0, e1, e2⟩ e3 e4) hwk
    exact ⟨d', by omega, h2⟩
  have both : ∀ {a b d : Int}, isP t a = true → isP t b = true → a ≠ v → b ≠ v → Wk (EL t.l) a b d → ∃ d', d' ≤ d ∧ UD rk' H' a b d' := fun {a b d} ha hb hav hbv hw => by
   obtain ⟨d1, h1, h2⟩ := hskip hav hbv hw
   obtain ⟨d2, h3, h4⟩ := hyp a b d1 (leftn _ ha hav) (leftn _ hb hbv) h2
   exact ⟨d2, by omega, h4⟩
  refine h.cmp rk' H' ⟨fun x hx => ext.sub x (hsub x hx), fun z hz hzt => (ext.same z hz (taken _ hzt)).trans (hrkI z (Int.natCast_nonneg _) hzt), fun z hz hzt => ?_⟩ ?_ s u d s0 s1 u0 u1 hwk
  ·by_cases e : v = z
   ·subst e; rw [hvr']; exact Int.le_refl _
   ·have := ext.later z hz (leftn _ hzt (by omega))
    omega
  ·intro a b d ha hb hw
   by_cases hav : a = v
   ·by_cases hbv : b = v
    ·have := hw.nonneg hnon
     rw [hav, hbv]
     exact ⟨0, this, UD.self _ _ _⟩
    ·obtain ⟨x, w, e, ⟨y, hy, e0, e1, e2⟩, h2, h3⟩ := hw.first (by rw [hav]; exact fun f => hbv f.symm)
     have hye := h.ok.ends y hy
     have hxv : x ≠ v := fun f => hye.2.2.1 (by rw [e0, e1, hav, f])
     have hxt : isP t x = true := by rw [← e1]; exact hye.2.1
     obtain ⟨d1, k1, k2⟩ := both hxt hb hxv hbv h2
     refine ⟨w + d1, by omega, k2.cons ⟨_, ext.sub _ (hasO y hy (e0.trans hav)), e0, e1, e2, ?_⟩⟩
     rw [hav]
     exact hlt x hxt hxv
   ·by_cases hbv : b = v
    ·obtain ⟨x, e, w, h2, ⟨y, hy, e0, e1, e2⟩, h3⟩ := hw.last (by rw [hbv]; exact hav)
     have hye := h.ok.ends y hy
     have hxv : x ≠ v := fun f => hye.2.2.1 (by rw [e0, e1, hbv, f])
     have hxt : isP t x = true := by rw [← e0]; exact hye.1
     obtain ⟨d1, k1, k2⟩ := both ha hxt hav hxv h2
     refine ⟨d1 + w, by omega, k2.snoc ⟨_, ext.sub _ (hasI y hy (e1.trans hbv)), e0, e1, e2, ?_⟩⟩
     rw [hbv]
     exact hlt x hxt hxv
    ·exact both ha hb hav hbv hw
structure DN (t : TP) (v : Int) (la lb : List Int) (xs : List S71) (i j : Nat) : Prop where
 len : xs.length ≤ i * lb.length + j
 sound : ∀ s ∈ xs, s.f0 ≠ s.f1 ∧ s.f2.f1 = v ∧ ∃ x ∈ t.l, ∃ y ∈ t.l, x.f0 = s.f0 ∧ x.f1 = v ∧ y.f0 = v ∧ y.f1 = s.f1 ∧ s.f2.f0 = x.f2.f0 + y.f2.f0
 full : ∀ i' j' : Nat, (i' < i ∧ j' < lb.length ∨ i' = i ∧ j' < j) → rd la (i' : Int) ≠ rd lb (j' : Int) → ∀ x y, wayP t.l (rd la (i' : Int)) v = some x → wayP t.l v (rd lb (j' : Int)) = some y →
  (∃ s ∈ xs, s.f0 = rd la (i' : Int) ∧ s.f1 = rd lb (j' : Int) ∧ s.f2.f0 = x.f0 + y.f0) ∨ ∃ d, d ≤ x.f0 + y.f0 ∧ Wk (ELw t.l v) (rd la (i' : Int)) (rd lb (j' : Int)) d
theorem DN.start (t : TP) (v : Int) (la lb : List Int) : DN t v la lb [] 0 0 := ⟨by simp, fun s hs => by simp at hs, fun i' j' h => by omega⟩
theorem DN.next {t : TP} {v : Int} {la lb : List Int} {xs : List S71} {i : Nat} (h : DN t v la lb xs i lb.length) : DN t v la lb xs (i + 1) 0 :=
 ⟨by have := h.len; rw [Nat.add_mul]; omega, h.sound, fun i' j' hij => h.full i' j' (by omega)⟩
theorem DN.same {t : TP} {v : Int} {la lb : List Int} {xs : List S71} {i j : Nat} (h : DN t v la lb xs i j) (e : rd la (i : Int) = rd lb (j : Int)) : DN t v la lb xs i (j + 1) :=
 ⟨by have := h.len; omega, h.sound, fun i' j' hij hne => by
  by_cases h1 : i' = i ∧ j' = j
  ·rw [h1.1, h1.2] at hne; exact absurd e hne
  ·exact h.full i' j' (by omega) hne⟩
theorem DN.near {t : TP} {v : Int} {la lb : List Int} {xs : List S71} {i j : Nat} (h : DN t v la lb xs i j) {x y : S69} (hx : wayP t.l (rd la (i : Int)) v = some x) (hy : wayP t.l v (rd lb (j : Int)) = some y)
  (hq : ∃ d, Wk (ELw t.l v) (rd la (i : Int)) (rd lb (j : Int)) d ∧ 0 ≤ d ∧ d ≤ x.f0 + y.f0) : DN t v la lb xs i (j + 1) :=
 ⟨by
   have := h.len; omega, h.sound, fun i' j' hij hne x' y' hx' hy' => by
  by_cases h1 : i' = i ∧ j' = j
  ·rw [h1.1] at hx' ⊢
   rw [h1.2] at hy' ⊢
   rw [hx] at hx'
   rw [hy] at hy'
   obtain rfl := Option.some.inj hx'
   obtain rfl := Option.some.inj hy'
   obtain ⟨d, h2, _, h3⟩ := hq
   exact .inr ⟨d, h3, h2⟩
  ·exact h.full i' j' (by omega) hne x' y' hx' hy'⟩
theorem DN.add {t : TP} {v : Int} {la lb : List Int} {xs : List S71} {i j : Nat} (h : DN t v la lb xs i j) {x y : S69} (hx : wayP t.l (rd la (i : Int)) v = some x) (hy : wayP t.l v (rd lb (j : Int)) = some y) (hne : rd la (i : Int) ≠ rd lb (j : Int)) :
  DN t v la lb (xs ++ [⟨rd la (i : Int), rd lb (j : Int), ⟨x.f0 + y.f0, v, -1⟩⟩]) i (j + 1) :=
 ⟨by have := h.len; rw [List.length_append, List.length_singleton]; omega, fun s hs => by
  rcases List.mem_append.1 hs with hs | hs
  ·exact h.sound s hs
  ·simp only [List.mem_singleton] at hs
   subst hs
   obtain ⟨a, ha, a0, a1, a2⟩ := wayP_some hx
   obtain ⟨b, hb, b0, b1, b2⟩ := wayP_some hy
   exact ⟨hne, rfl, a, ha, b, hb, a0, a1, b0, b1, by rw [a2, b2]⟩,
 fun i' j' hij hne' x' y' hx' hy' => by
  by_cases h1 : i' = i ∧ j' = j
  ·rw [h1.1] at hx' ⊢
   rw [h1.2] at hy' ⊢
   rw [hx] at hx'
   rw [hy] at hy'
   obtain rfl := Option.some.inj hx'
   obtain rfl := Option.some.inj hy'
   exact .inl ⟨_, List.mem_append.2 (.inr (List.mem_singleton.2 rfl)), rfl, rfl, rfl⟩
  ·rcases h.full i' j' (by omega) hne' x' y' hx' hy' with ⟨s, hs, r⟩ | r
   ·exact .inl ⟨s, by simp [hs], r⟩
   ·exact .inr r⟩
theorem mem_rd {l : List Int} {a : Int} (h : a ∈ l) : ∃ i : Nat, i < l.length ∧ rd l (i : Int) = a := by
 obtain ⟨i, hi, e⟩ := List.getElem_of_mem h
 exact ⟨i, hi, by rw [rd_get hi, e]⟩
theorem DN.done {n : Nat} {wm : Int} {t : TP} {v : Int} {xs : List S71} (ok : TOk n wm t)
  (h : DN t v (rowB t.n fun x => (wayP t.l x v).isSome) (rowB t.n fun x => (wayP t.l v x).isSome) xs (rowB t.n fun x => (wayP t.l x v).isSome).length 0) : NeedOk n t v xs := by
 refine ⟨?_, h.sound, fun x hx y hy e1 e0 hne => ?_⟩
 ·have h1 := rowB_len t.n fun x => (wayP t.l x v).isSome
  have h2 := rowB_len t.n fun x => (wayP t.l v x).isSome
  rw [ok.nn] at h1 h2
  have := h.len
  have := Nat.mul_le_mul h1 h2
  rw [ok.nn] at *
  omega
 ·have wx := ok.way hx
  have wy := ok.way hy
  rw [e1] at wx
  rw [e0] at wy
  have i1 := isP_in (ok.ends x hx).1
  have i2 := isP_in (ok.ends y hy).2.1
  obtain ⟨i, hi, ei⟩ := mem_rd (rowB_mem.2 ⟨i1.1, i1.2, by rw [wx]; rfl⟩ : x.f0 ∈ rowB t.n fun x => (wayP t.l x v).isSome)
  obtain ⟨j, hj, ej⟩ := mem_rd (rowB_mem.2 ⟨i2.1, i2.2, by rw [wy]; rfl⟩ : y.f1 ∈ rowB t.n fun x => (wayP t.l v x).isSome)
  have := h.full i j (.inl ⟨hi, hj⟩) (by rw [ei, ej]; exact hne) x.f2 y.f2 (by rw [ei]; exact wx) (by rw [ej]; exact wy)
  rw [ei, ej] at this
  exact this
end Go.Proofs.YtfkejflmhidnaaaGreat.PAll
