import Derived.Test.YtfppfdejjifhdaaQMvL
namespace Go.Proofs.Ytfppfdejjifhdaa.PAll
open Go.RowKit Go.Proofs.YtfppfdejjifhdaaW.PrintWords Go.Proofs.YtfppfdejjifhdaaW.PrintLast Go.Proofs.YtfppfdejjifhdaaW.PrintMore
open Hp hiding Good
set_option linter.unusedVariables false
set_option linter.unusedSimpArgs false

def lessB (q : Q) (v x : Int) : Bool := match key q v with
  | none => true
  | some k => decide (x < k)
/-- how many places are not out -/
def left (n : Nat) (out : Int → Option Int) : Nat := (List.range n).countP fun (v : Nat) => (out (v : Int)).isNone
theorem left_upd {n : Nat} {out : Int → Option Int} {x : Nat} (y : Int) (hx : x < n) (h : out (x : Int) = none) : left n (upd out x y) < left n out := by
  unfold left
  induction n with
  | zero => omega
  | succ n ih =>
    rw [List.range_succ, List.countP_append, List.countP_append, List.countP_singleton, List.countP_singleton]
    have mono : ∀ n, (List.range n).countP (fun (v : Nat) => (upd out x y (v : Int)).isNone) ≤ (List.range n).countP (fun (v : Nat) => (out (v : Int)).isNone) := fun n => by
      refine List.countP_mono_left (fun v _ hv => ?_)
      simp only [upd] at hv
      by_cases e : ((v : Nat) : Int) = (x : Int)
      · rw [if_pos e] at hv; simp at hv
      · rw [if_neg e] at hv; exact hv
    by_cases e : x = n
    · subst e
      have := mono x
      rw [h]
      simp only [upd, if_true]
      simp
      simp only [upd] at this
      omega
    · have := ih (by omega)
      have hne : ((n : Nat) : Int) ≠ (x : Int) := by omega
      simp only [upd, if_neg hne] at this ⊢
      omega
theorem left_none (n : Nat) : left n (fun _ => none) = n := by simp [left]

end Go.Proofs.Ytfppfdejjifhdaa.PAll

namespace Go.Proofs.Ytfppfdejjifhdaa.PAll
open Go.RowKit Go.Proofs.YtfppfdejjifhdaaW.PrintWords Go.Proofs.YtfppfdejjifhdaaW.PrintLast Go.Proofs.YtfppfdejjifhdaaW.PrintMore
open Hp hiding Good
set_option linter.unusedVariables false
set_option linter.unusedSimpArgs false

/-! ### walks: so many steps, and how long -/
def WkN (E : Int → Int → Int → Prop) : Nat → Int → Int → Int → Prop
  | 0, a, b, d => a = b ∧ d = 0
  | n + 1, a, c, d => ∃ b e w, WkN E n a b e ∧ E b c w ∧ d = e + w
def Wk (E : Int → Int → Int → Prop) (a b d : Int) : Prop := ∃ n, WkN E n a b d
theorem Wk.nil (E : Int → Int → Int → Prop) (a : Int) : Wk E a a 0 := ⟨0, rfl, rfl⟩
theorem Wk.snoc {E : Int → Int → Int → Prop} {a b c d w : Int} (h : Wk E a b d) (g : E b c w) : Wk E a c (d + w) := by
  obtain ⟨n, h⟩ := h
  exact ⟨n + 1, b, d, w, h, g, rfl⟩
theorem Wk.one {E : Int → Int → Int → Prop} {a b w : Int} (g : E a b w) : Wk E a b w := by
  have := (Wk.nil E a).snoc g
  rwa [Int.zero_add] at this
theorem WkN.cons {E : Int → Int → Int → Prop} : ∀ (n : Nat) {a b c w e : Int}, E a b w → WkN E n b c e → WkN E (n + 1) a c (w + e)
  | 0, a, b, c, w, e, g, ⟨h1, h2⟩ => ⟨a, 0, w, ⟨rfl, rfl⟩, by subst h1; exact g, by omega⟩
  | n + 1, a, b, c, w, e, g, ⟨x, y, z, h1, h2, h3⟩ => ⟨x, w + y, z, WkN.cons n g h1, h2, by omega⟩
theorem WkN.uncons {E : Int → Int → Int → Prop} : ∀ (n : Nat) {a c d : Int}, WkN E (n + 1) a c d → ∃ b w e, E a b w ∧ WkN E n b c e ∧ d = w + e
  | 0, a, c, d, ⟨b, e, w, ⟨h1, h2⟩, g, h3⟩ => ⟨c, w, 0, by subst h1; exact g, ⟨rfl, rfl⟩, by omega⟩
  | n + 1, a, c, d, ⟨b, e, w, h, g, h3⟩ => by
    obtain ⟨x, y, z, k1, k2, k3⟩ := WkN.uncons n h
    exact ⟨x, y, z + w, k1, ⟨b, z, w, k2, g, rfl⟩, by omega⟩
theorem Wk.cons {E : Int → Int → Int → Prop} {a b c w e : Int} (g : E a b w) (h : Wk E b c e) : Wk E a c (w + e) := by
  obtain ⟨n, h⟩ := h
  exact ⟨n + 1, WkN.cons n g h⟩
theorem Wk.append {E : Int → Int → Int → Prop} {a b c d e : Int} (h : Wk E a b d) (g : Wk E b c e) : Wk E a c (d + e) := by
  obtain ⟨n, g⟩ := g
  induction n generalizing c e with
  | zero =>
    obtain ⟨rfl, rfl⟩ := g
    rwa [Int.add_zero]
  | succ n ih =>
    obtain ⟨x, y, z, k1, k2, rfl⟩ := g
    have := (ih k1).snoc k2
    rwa [Int.add_assoc] at this
theorem Wk.sub {E F : Int → Int → Int → Prop} (hEF : ∀ a b w, E a b w → ∃ d, d ≤ w ∧ Wk F a b d) {a b d : Int} (h : Wk E a b d) : ∃ d', d' ≤ d ∧ Wk F a b d' := by
  obtain ⟨n, h⟩ := h
  induction n generalizing b d with
  | zero =>
    obtain ⟨rfl, rfl⟩ := h
    exact ⟨0, by omega, Wk.nil F a⟩
  | succ n ih =>
    obtain ⟨x, y, z, k1, k2, rfl⟩ := h
    obtain ⟨d1, e1, h1⟩ := ih k1
    obtain ⟨d2, e2, h2⟩ := hEF _ _ _ k2
    exact ⟨d1 + d2, by omega, h1.append h2⟩
theorem Wk.bind {E F : Int → Int → Int → Prop} (hEF : ∀ a b w, E a b w → Wk F a b w) {a b d : Int} (h : Wk E a b d) : Wk F a b d := by
  obtain ⟨n, h⟩ := h
  induction n generalizing b d with
  | zero =>
    obtain ⟨rfl, rfl⟩ := h
    exact Wk.nil F a
  | succ n ih =>
    obtain ⟨x, y, z, k1, k2, rfl⟩ := h
    exact (ih k1).append (hEF _ _ _ k2)
theorem Wk.imp {E F : Int → Int → Int → Prop} (hEF : ∀ a b w, E a b w → F a b w) {a b d : Int} (h : Wk E a b d) : Wk F a b d := h.bind (fun a b w g => Wk.one (hEF a b w g))
theorem WkN.nonneg {E : Int → Int → Int → Prop} (hE : ∀ a b w, E a b w → 0 ≤ w) : ∀ (n : Nat) {a b d : Int}, WkN E n a b d → 0 ≤ d
  | 0, _, _, _, ⟨_, h⟩ => by omega
  | n + 1, a, b, d, ⟨x, y, z, k1, k2, k3⟩ => by
    have h1 := WkN.nonneg hE n k1
    have h2 := hE _ _ _ k2
    omega
theorem Wk.nonneg {E : Int → Int → Int → Prop} (hE : ∀ a b w, E a b w → 0 ≤ w) {a b d : Int} (h : Wk E a b d) : 0 ≤ d := by
  obtain ⟨n, h⟩ := h
  exact WkN.nonneg hE n h
/-- a walk that goes somewhere else has a first step -/
theorem Wk.first {E : Int → Int → Int → Prop} {a c d : Int} (h : Wk E a c d) (hne : a ≠ c) : ∃ b w e, E a b w ∧ Wk E b c e ∧ d = w + e := by
  obtain ⟨n, h⟩ := h
  cases n with
  | zero => exact absurd h.1 hne
  | succ n =>
    obtain ⟨b, w, e, h1, h2, h3⟩ := WkN.uncons n h
    exact ⟨b, w, e, h1, ⟨n, h2⟩, h3⟩
theorem Wk.last {E : Int → Int → Int → Prop} {a c d : Int} (h : Wk E a c d) (hne : a ≠ c) : ∃ b e w, Wk E a b e ∧ E b c w ∧ d = e + w := by
  obtain ⟨n, h⟩ := h
  cases n with
  | zero => exact absurd h.1 hne
  | succ n =>
    obtain ⟨b, e, w, h1, h2, h3⟩ := h
    exact ⟨b, e, w, ⟨n, h1⟩, h2, h3⟩

end Go.Proofs.Ytfppfdejjifhdaa.PAll

namespace Go.Proofs.Ytfppfdejjifhdaa.PAll
open Go.RowKit Go.Proofs.YtfppfdejjifhdaaW.PrintWords Go.Proofs.YtfppfdejjifhdaaW.PrintLast Go.Proofs.YtfppfdejjifhdaaW.PrintMore
open Hp hiding Good
set_option linter.unusedVariables false
set_option linter.unusedSimpArgs false

/-! ### is there a way around: the search, plain. E: the ways, but for those to the place that is left out -/
structure NI (n : Nat) (E : Int → Int → Int → Prop) (u wo most : Int) (T : Int → Int → Prop) (q : Q) (dn : Int → Option Int) : Prop where
  ok : Ok n q
  keys : ∀ x k : Int, 0 ≤ x → x < n → key q x = some k → dn x = none ∧ x ≠ wo ∧ 0 ≤ k ∧ k ≤ most ∧ Wk E u x k
  outs : ∀ x y : Int, dn x = some y → 0 ≤ x ∧ x < n ∧ x ≠ wo ∧ 0 ≤ y ∧ y ≤ most ∧ Wk E u x y
  clo : ∀ x d : Int, dn x = some d → ∀ y w : Int, E x y w → d + w ≤ most → T x y ∨ (∃ d', dn y = some d' ∧ d' ≤ d + w) ∨ (∃ k, key q y = some k ∧ k ≤ d + w)
  ord : ∀ x d y k : Int, dn x = some d → 0 ≤ y → y < n → key q y = some k → d ≤ k
  src : dn u = some 0 ∨ key q u = some 0
/-- ways that may be: among places, of no length below nought, none to the place that is left out -/
structure EOk (n : Nat) (wo : Int) (E : Int → Int → Int → Prop) : Prop where
  ends : ∀ a b w : Int, E a b w → 0 ≤ a ∧ a < n ∧ 0 ≤ b ∧ b < n ∧ b ≠ wo ∧ 0 ≤ w
  one : ∀ a b w w' : Int, E a b w → E a b w' → w = w'
variable {n : Nat} {E : Int → Int → Int → Prop} {u wo most : Int} {T : Int → Int → Prop} {q : Q} {dn : Int → Option Int}
theorem NI.start (u0 : 0 ≤ u) (u1 : u < n) (hu : u ≠ wo) (hm : 0 ≤ most) : NI n E u wo most (fun _ _ => False) (put ⟨[], List.replicate n 0⟩ u 0) (fun _ => none) := by
  obtain ⟨d1, d2⟩ := put_ok 0 (empty_ok n) u0 u1
  refine ⟨d1, fun x k x0 x1 e => ?_, fun x y e => (by cases e), fun x d e => (by cases e), fun x d y k e => (by cases e), .inr (by rw [d2 u u0 u1, if_pos rfl])⟩
  rw [d2 x x0 x1] at e
  by_cases hx : x = u
  · rw [if_pos hx] at e
    cases e
    subst hx
    exact ⟨rfl, hu, Int.le_refl _, hm, Wk.nil _ _⟩
  · rw [if_neg hx, empty_key] at e
    cases e
theorem NI.first (h : NI n E u wo most T q dn) (hq : 0 < q.l.length) :
    0 ≤ (nth q.l 0).id ∧ (nth q.l 0).id < n ∧ key q (nth q.l 0).id = some (nth q.l 0).key ∧ pl q.place (nth q.l 0).id ≠ 0 ∧ ∀ x k : Int, 0 ≤ x → x < n → key q x = some k → (nth q.l 0).key ≤ k := by
  have h1 := h.ok.good.ids 0 hq
  refine ⟨h1.1, h1.2.1, h.ok.good.key_at hq, by omega, fun x k x0 x1 e => ?_⟩
  obtain ⟨i, hi, e', _⟩ := h.ok.good.key_some x0 x1 e
  have := h.ok.first i hi
  rw [e'] at this
  unfold le at this
  simp only at this
  omega
/-- the nearest one is taken out -/
theorem NI.pop (hE : EOk n wo E) (h : NI n E u wo most (fun _ _ => False) q dn) (hq : 0 < q.l.length) :
    NI n E u wo most (fun a _ => a = (nth q.l 0).id) (drop q (nth q.l 0).id) (upd dn (nth q.l 0).id (nth q.l 0).key) ∧ ∀ x d, upd dn (nth q.l 0).id (nth q.l 0).key x = some d → d ≤ (nth q.l 0).key := by
  obtain ⟨h0, h1, hk, hp, hl⟩ := h.first hq
  generalize (nth q.l 0).id = v at *
  generalize (nth q.l 0).key = k at *
  obtain ⟨d1, _, d2⟩ := drop_ok h.ok h0 h1 hp
  have hkv := h.keys v k h0 h1 hk
  have hmx : ∀ x d, upd dn v k x = some d → d ≤ k := fun x d e => by
    simp only [upd] at e
    by_cases hx : x = v
    · rw [if_pos hx] at e; cases e; exact Int.le_refl _
    · rw [if_neg hx] at e; exact h.ord x d v k e h0 h1 hk
  refine ⟨⟨d1, fun x k' x0 x1 e => ?_, fun x y e => ?_, fun x d e y w g hd => ?_, fun x d y k' e y0 y1 e' => ?_, ?_⟩, hmx⟩
  · rw [d2 x x0 x1] at e
    by_cases hx : x = v
    · rw [if_pos hx] at e; cases e
    · rw [if_neg hx] at e
      have := h.keys x k' x0 x1 e
      exact ⟨by simp only [upd, if_neg hx]; exact this.1, this.2⟩
  · simp only [upd] at e
    by_cases hx : x = v
    · rw [if_pos hx] at e; cases e; subst hx; exact ⟨h0, h1, hkv.2.1, hkv.2.2.1, hkv.2.2.2.1, hkv.2.2.2.2⟩
    · rw [if_neg hx] at e; exact h.outs x y e
  · simp only [upd] at e
    by_cases hx : x = v
    · exact .inl hx
    · rw [if_neg hx] at e
      right
      have hy := (hE.ends x y w g)
      rcases h.clo x d e y w g hd with f | ⟨d', e', hl'⟩ | ⟨k', e', hl'⟩
      · exact f.elim
      · left
        refine ⟨d', ?_, hl'⟩
        simp only [upd]
        by_cases hyv : y = v
        · subst hyv; rw [hkv.1] at e'; cases e'
        · rw [if_neg hyv]; exact e'
      · by_cases hyv : y = v
        · subst hyv
          left
          rw [hk] at e'
          cases e'
          exact ⟨k, by simp [upd], hl'⟩
        · right
          exact ⟨k', by rw [d2 y hy.2.2.1 hy.2.2.2.1, if_neg hyv]; exact e', hl'⟩
  · rw [d2 y y0 y1] at e'
    by_cases hy : y = v
    · rw [if_pos hy] at e'; cases e'
    · rw [if_neg hy] at e'
      have h1 := hmx x d e
      have h2 := hl y k' y0 y1 e'
      omega
  · rcases h.src with e | e
    · left
      simp only [upd]
      by_cases hu : u = v
      · subst hu; rw [hkv.1] at e; cases e
      · rw [if_neg hu]; exact e
    · by_cases hu : u = v
      · subst hu
        left
        rw [hk] at e
        cases e
        simp [upd]
      · right
        by_cases hr : 0 ≤ u ∧ u < n
        · rw [d2 u hr.1 hr.2, if_neg hu]; exact e
        · have hw := hkv.2.2.2.2
          by_cases huv : u = v
          · exact absurd huv hu
          · obtain ⟨b, w, e', g, _⟩ := hw.first huv
            have := hE.ends u b w g
            exact absurd ⟨this.1, this.2.1⟩ hr
/-- a way from the place that was taken out last is looked at -/
def wants (q : Q) (dn : Int → Option Int) (most y e : Int) : Bool := decide (e ≤ most) && (dn y).isNone && lessB q y e
theorem NI.step (hE : EOk n wo E) {c d : Int} (hd : dn c = some d) (hmx : ∀ x d', dn x = some d' → d' ≤ d) (h : NI n E u wo most T q dn) {y w : Int} (g : E c y w) {T' : Int → Int → Prop} (hT : ∀ a b, T a b → T' a b ∨ (a = c ∧ b = y)) :
    NI n E u wo most T' (if wants q dn most y (d + w) = true then put q y (d + w) else q) dn := by
  obtain ⟨_, _, y0, y1, ywo, w0⟩ := hE.ends c y w g
  have hdc := h.outs c d hd
  by_cases hw : wants q dn most y (d + w) = true
  · rw [if_pos hw]
    unfold wants at hw
    rw [Bool.and_eq_true, Bool.and_eq_true, decide_eq_true_eq] at hw
    obtain ⟨⟨hle, hno⟩, hls⟩ := hw
    have hno : dn y = none := by
      cases e : dn y with
      | none => rfl
      | some z => rw [e] at hno; simp at hno
    obtain ⟨d1, d2⟩ := put_ok (d + w) h.ok y0 y1
    refine ⟨d1, fun x k x0 x1 e => ?_, h.outs, fun x d' e z w' g' hd' => ?_, fun x d' z k e z0 z1 e' => ?_, ?_⟩
    · rw [d2 x x0 x1] at e
      by_cases hx : x = y
      · rw [if_pos hx] at e
        cases e
        subst hx
        exact ⟨hno, ywo, by omega, hle, hdc.2.2.2.2.2.snoc g⟩
      · rw [if_neg hx] at e; exact h.keys x k x0 x1 e
    · have hz := hE.ends x z w' g'
      by_cases hzy : z = y
      · subst hzy
        have hin : key (put q z (d + w)) z = some (d + w) := by rw [d2 z y0 y1, if_pos rfl]
        rcases h.clo x d' e z w' g' hd' with f | ⟨d'', e', _⟩ | ⟨k, e', hk⟩
        · rcases hT _ _ f with f' | ⟨rfl, _⟩
          · exact .inl f'
          · rw [hd] at e
            cases e
            have := hE.one _ _ _ _ g g'
            exact .inr (.inr ⟨d + w, hin, by omega⟩)
        · rw [hno] at e'; cases e'
        · unfold lessB at hls
          rw [e'] at hls
          have : d + w < k := by simpa using hls
          exact .inr (.inr ⟨d + w, hin, by omega⟩)
      · rcases h.clo x d' e z w' g' hd' with f | f | ⟨k, e', hk⟩
        · rcases hT _ _ f with f' | ⟨_, f'⟩
          · exact .inl f'
          · exact absurd f' hzy
        · exact .inr (.inl f)
        · exact .inr (.inr ⟨k, by rw [d2 z hz.2.2.1 hz.2.2.2.1, if_neg hzy]; exact e', hk⟩)
    · rw [d2 z z0 z1] at e'
      by_cases hz : z = y
      · rw [if_pos hz] at e'
        cases e'
        have := hmx x d' e
        omega
      · rw [if_neg hz] at e'; exact h.ord x d' z k e z0 z1 e'
    · rcases h.src with e | e
      · exact .inl e
      · by_cases hr : 0 ≤ u ∧ u < n
        · by_cases hu : u = y
          · subst hu
            unfold lessB at hls
            rw [e] at hls
            have : d + w < 0 := by simpa using hls
            omega
          · right; rw [d2 u hr.1 hr.2, if_neg hu]; exact e
        · by_cases huc : u = c
          · subst huc; exact absurd ⟨hdc.1, hdc.2.1⟩ hr
          · obtain ⟨b, w', e', g', _⟩ := hdc.2.2.2.2.2.first huc
            have := hE.ends u b w' g'
            exact absurd ⟨this.1, this.2.1⟩ hr
  · rw [if_neg hw]
    refine ⟨h.ok, h.keys, h.outs, fun x d' e z w' g' hd' => ?_, h.ord, h.src⟩
    rcases h.clo x d' e z w' g' hd' with f | f | f
    · rcases hT _ _ f with f' | ⟨rfl, rfl⟩
      · exact .inl f'
      · rw [hd] at e
        cases e
        have e1 := hE.one _ _ _ _ g g'
        subst e1
        right
        by_cases hno : dn z = none
        · right
          by_cases hk : key q z = none
          · exfalso
            apply hw
            unfold wants lessB
            rw [hno, hk]
            simp [hd']
          · obtain ⟨k, hk⟩ := Option.ne_none_iff_exists'.1 hk
            refine ⟨k, hk, ?_⟩
            apply Classical.byContradiction
            intro hc
            apply hw
            unfold wants lessB
            rw [hno, hk]
            simp [hd']
            omega
        · left
          obtain ⟨d'', hd''⟩ := Option.ne_none_iff_exists'.1 hno
          exact ⟨d'', hd'', by have := hmx _ _ hd''; omega⟩
    · exact .inr (.inl f)
    · exact .inr (.inr f)
/-- nothing is open any more: what is within the length was come to -/
theorem NI.done (hE : EOk n wo E) (u0 : 0 ≤ u) (u1 : u < n) (h : NI n E u wo most (fun _ _ => False) q dn) (hq : q.l = []) {y d : Int} (hw : Wk E u y d) (hd : d ≤ most) : ∃ d', dn y = some d' ∧ d' ≤ d := by
  have hno : ∀ x k : Int, 0 ≤ x → x < (n : Int) → key q x = some k → False := fun x k x0 x1 e => by
    obtain ⟨i, hi, _⟩ := h.ok.good.key_some x0 x1 e
    rw [hq] at hi
    simp at hi
  obtain ⟨k, hw⟩ := hw
  induction k generalizing y d with
  | zero =>
    obtain ⟨rfl, rfl⟩ := hw
    rcases h.src with e | e
    · exact ⟨0, e, Int.le_refl _⟩
    · exact (hno _ _ u0 u1 e).elim
  | succ k ih =>
    obtain ⟨x, e, w, h1, h2, rfl⟩ := hw
    have hx := hE.ends _ _ _ h2
    obtain ⟨d', e1, l1⟩ := ih (by omega) h1
    rcases h.clo x d' e1 y w h2 (by omega) with f | ⟨d'', e2, l2⟩ | ⟨k, e2, _⟩
    · exact f.elim
    · exact ⟨d'', e2, by omega⟩
    · exact (hno _ _ hx.2.2.1 hx.2.2.2.1 e2).elim
theorem NI.weak {T' : Int → Int → Prop} (h : NI n E u wo most T q dn) (hT : ∀ a b w, E a b w → T a b → T' a b) : NI n E u wo most T' q dn :=
  ⟨h.ok, h.keys, h.outs, fun x d e y w g hd => (h.clo x d e y w g hd).imp (hT x y w g) id, h.ord, h.src⟩
/-- there is a way around -/
def nearP (E : Int → Int → Int → Prop) (u v most : Int) : Prop := ∃ d, d ≤ most ∧ Wk E u v d
end Go.Proofs.Ytfppfdejjifhdaa.PAll

namespace Go.Proofs.Ytfppfdejjifhdaa.PAll
open Go.RowKit Go.Proofs.YtfppfdejjifhdaaW.PrintWords Go.Proofs.YtfppfdejjifhdaaW.PrintLast Go.Proofs.YtfppfdejjifhdaaW.PrintMore
open Hp hiding Good
set_option linter.unusedVariables false
set_option linter.unusedSimpArgs false

/-! ### what is left of a graph, plain -/
structure WayP where
  w : Int
  mid : Int
  arc : Int
  deriving DecidableEq
/-- the ways, but for those to the place that is left out -/
def edgeL (F : Int → Int → Option WayP) (wo : Int) : Int → Int → Int → Prop := fun a b w => b ≠ wo ∧ ∃ y, F a b = some y ∧ y.w = w
/-- ways that may be -/
structure LOk (n : Nat) (wm : Int) (F : Int → Int → Option WayP) : Prop where
  ends : ∀ a b y, F a b = some y → 0 ≤ a ∧ a < n ∧ 0 ≤ b ∧ b < n ∧ a ≠ b ∧ 0 ≤ y.w ∧ y.w ≤ wm
theorem LOk.eok {n : Nat} {wm : Int} {F : Int → Int → Option WayP} (h : LOk n wm F) (wo : Int) : EOk n wo (edgeL F wo) :=
  ⟨fun a b w ⟨hb, y, e, hw⟩ => by
    obtain ⟨h0, h1, h2, h3, _, h5, _⟩ := h.ends a b y e
    exact ⟨h0, h1, h2, h3, hb, by omega⟩, fun a b w w' ⟨_, y, e, hw⟩ ⟨_, y', e', hw'⟩ => by rw [e] at e'; cases e'; omega⟩
def putF (F : Int → Int → Option WayP) (u v : Int) (y : WayP) : Int → Int → Option WayP := fun a b => if a = u ∧ b = v then some y else F a b
/-- is a way laid? -/
def laysP (n : Nat) (F : Int → Int → Option WayP) (u v w mid : Int) : Bool := decide (0 ≤ u ∧ u < n ∧ 0 ≤ v ∧ v < n ∧ u ≠ v ∧ 0 ≤ w ∧ 0 ≤ mid) && (match F u v with
  | none => true
  | some old => decide (w < old.w))
theorem LOk.put {n : Nat} {wm : Int} {F : Int → Int → Option WayP} (h : LOk n wm F) {u v : Int} {y : WayP} (hy : y.w ≤ wm) {mid : Int} (hl : laysP n F u v y.w mid = true) : LOk n wm (putF F u v y) := by
  unfold laysP at hl
  rw [Bool.and_eq_true, decide_eq_true_eq] at hl
  obtain ⟨⟨h0, h1, h2, h3, h4, h5, _⟩, _⟩ := hl
  refine ⟨fun a b z e => ?_⟩
  unfold putF at e
  split at e
  · rename_i hab
    cases e
    obtain ⟨rfl, rfl⟩ := hab
    exact ⟨h0, h1, h2, h3, h4, h5, hy⟩
  · exact h.ends a b z e
theorem near_more {E : Int → Int → Int → Prop} {u v m m' : Int} (h : nearP E u v m) (hm : m ≤ m') : nearP E u v m' := by
  obtain ⟨d, hd, hw⟩ := h
  exact ⟨d, by omega, hw⟩
theorem near_self {E : Int → Int → Int → Prop} {u m : Int} (hm : 0 ≤ m) : nearP E u u m := ⟨0, hm, Wk.nil _ _⟩
theorem near_one {E : Int → Int → Int → Prop} {u v w m : Int} (g : E u v w) (hw : w ≤ m) : nearP E u v m := ⟨w, hw, Wk.one g⟩
/-- with one way shorter nothing is less near -/
theorem near_put {n : Nat} {F : Int → Int → Option WayP} {u v mid : Int} {y : WayP} (hl : laysP n F u v y.w mid = true) {wo a b m : Int} (h : nearP (edgeL F wo) a b m) : nearP (edgeL (putF F u v y) wo) a b m := by
  obtain ⟨d, hd, hw⟩ := h
  obtain ⟨d', hd', hw'⟩ := hw.sub (F := edgeL (putF F u v y) wo) (fun p q w ⟨hq, z, e, hz⟩ => by
    by_cases hpq : p = u ∧ q = v
    · obtain ⟨rfl, rfl⟩ := hpq
      refine ⟨y.w, ?_, Wk.one ⟨hq, y, by unfold putF; rw [if_pos ⟨rfl, rfl⟩], rfl⟩⟩
      unfold laysP at hl
      rw [Bool.and_eq_true, e] at hl
      have := hl.2
      simp at this
      omega
    · exact ⟨w, Int.le_refl _, Wk.one ⟨hq, z, by unfold putF; rw [if_neg hpq]; exact e, hz⟩⟩)
  exact ⟨d', by omega, hw'⟩
end Go.Proofs.Ytfppfdejjifhdaa.PAll

namespace Go.Proofs.Ytfppfdejjifhdaa.PAll
open Go.RowKit Go.Proofs.YtfppfdejjifhdaaW.PrintWords Go.Proofs.YtfppfdejjifhdaaW.PrintLast Go.Proofs.YtfppfdejjifhdaaW.PrintMore
set_option linter.unusedVariables false
set_option linter.unusedSimpArgs false

/-! ### which ways are laid, plain -/
variable {n : Nat} {F : Int → Int → Option WayP} {u v w mid : Int} {y : WayP}
theorem lays_self : laysP n F u u w mid = false := by unfold laysP; simp
theorem lays_none (hu : 0 ≤ u) (hu' : u < n) (hv : 0 ≤ v) (hv' : v < n) (hn : u ≠ v) (hw : 0 ≤ w) (hm : 0 ≤ mid) (h : F u v = none) : laysP n F u v w mid = true := by
  unfold laysP
  rw [h, decide_eq_true ⟨hu, hu', hv, hv', hn, hw, hm⟩]
  rfl
theorem lays_less (hu : 0 ≤ u) (hu' : u < n) (hv : 0 ≤ v) (hv' : v < n) (hn : u ≠ v) (hw : 0 ≤ w) (hm : 0 ≤ mid) (h : F u v = some y) (hy : w < y.w) : laysP n F u v w mid = true := by
  unfold laysP
  rw [h, decide_eq_true ⟨hu, hu', hv, hv', hn, hw, hm⟩]
  simpa using hy
theorem lays_not (h : F u v = some y) (hy : y.w ≤ w) : laysP n F u v w mid = false := by
  unfold laysP
  rw [h]
  simp
  omega
theorem put_at (F : Int → Int → Option WayP) (u v : Int) (y : WayP) : putF F u v y u v = some y := by unfold putF; rw [if_pos ⟨rfl, rfl⟩]
theorem near_way (h : F u v = some y) {wo m : Int} (hv : v ≠ wo) (hm : y.w ≤ m) : nearP (edgeL F wo) u v m := near_one ⟨hv, y, h, rfl⟩ hm
end Go.Proofs.Ytfppfdejjifhdaa.PAll
