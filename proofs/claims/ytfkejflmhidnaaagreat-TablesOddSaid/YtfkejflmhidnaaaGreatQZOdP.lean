import Derived.Test.YtfkejflmhidnaaaGreatQZKwA
set_option linter.all false
namespace Go.Proofs.YtfkejflmhidnaaaGreat.PAll
open RowKit YtfkejflmhidnaaaGreatW.PrintWords YtfkejflmhidnaaaGreatW.PrintLast YtfkejflmhidnaaaGreatW.PrintMore
open Hp hiding Good
theorem chk_g {n : Int} {t : TabP} (hn : n ≤ 16777216) (h : risingI (inP n) [t.g] 1 = false) : checkP n t = 2 := by
 unfold checkP
 rw [if_neg (by omega)]
 by_cases h0 : n < 0
 ·rw [if_pos h0]
 ·rw [if_neg h0, if_pos h]
theorem chk_far {n : Int} {t : TabP} (hn : n ≤ 16777216) (h : farOk t.g.length t.far = false) : checkP n t = 2 := by
 unfold checkP
 rw [if_neg (by omega), h]
 (repeat' split) <;> simp_all
theorem chk_out {n : Int} {t : TabP} (hn : n ≤ 16777216) (h : risingR (greatQ t.g) t.out n = false) : checkP n t = 2 := by
 unfold checkP
 rw [if_neg (by omega), h]
 (repeat' split) <;> simp_all
theorem chk_inn {n : Int} {t : TabP} (hn : n ≤ 16777216) (h : risingR (greatQ t.g) t.inn n = false) : checkP n t = 2 := by
 unfold checkP
 rw [if_neg (by omega), h]
 (repeat' split) <;> simp_all
theorem chk_so {n : Int} {t : TabP} (hn : n ≤ 16777216) (h : risingI (lowQ t.g n) t.so n = false) : checkP n t = 2 := by
 unfold checkP
 rw [if_neg (by omega), h]
 (repeat' split) <;> simp_all
theorem chk_si {n : Int} {t : TabP} (hn : n ≤ 16777216) (h : risingI (lowQ t.g n) t.si n = false) : checkP n t = 2 := by
 unfold checkP
 rw [if_neg (by omega), h]
 (repeat' split) <;> simp_all
theorem risingI_len {may : Int → Bool} {rows : List (List Int)} {n : Int} (h : (rows.length : Int) ≠ n) : risingI may rows n = false := by
 unfold risingI
 simp [h]
theorem risingR_len {may : S37 → Bool} {rows : List (List S37)} {n : Int} (h : (rows.length : Int) ≠ n) : risingR may rows n = false := by
 unfold risingR
 simp [h]
theorem risingI_at {may : Int → Bool} {rows : List (List Int)} {n : Int} {r : List Int} {q : Nat} (hr : r ∈ rows) (hq : q < r.length) (h : may (rd r (q : Int)) = false) : risingI may rows n = false :=
 risingI_no hr (okToI_no hq (by unfold stepTI; rw [h]; rfl))
theorem okToR_no2 {may : S37 → Bool} {r : List S37} {j : Nat} (hj : j < r.length) (h : stepTR may r j = false) : okToR may r r.length = false := by
 unfold okToR
 rw [List.all_eq_false]
 exact ⟨j, List.mem_range.2 hj, by simp [h]⟩
theorem risingR_at {may : S37 → Bool} {rows : List (List S37)} {n : Int} {r : List S37} {q : Nat} (hr : r ∈ rows) (hq : q < r.length) (h : may (rd_T37 r (q : Int)) = false) : risingR may rows n = false := by
 have h1 := okToR_no2 (may := may) hq (by unfold stepTR; rw [h]; rfl)
 have : rows.all (fun r => okToR may r r.length) = false := by
  rw [List.all_eq_false]
  exact ⟨r, hr, by simp [h1]⟩
 unfold risingR
 rw [this, Bool.and_false]
theorem farOk_at {m : Nat} {far : List (List Int)} {i q : Nat} (hi : i < far.length) (hq : q < (rd_L5 far (i : Int)).length) (h : rd (rd_L5 far (i : Int)) (q : Int) < -1) : farOk m far = false := by
 have hb : badP (rd_L5 far (i : Int)) = true := by
  unfold badP
  rw [List.any_eq_true]
  refine ⟨_, List.getElem_mem hq, ?_⟩
  rw [← rd_get hq]
  unfold longP
  simp
  omega
 have hr : farRow m far i = false := by
  unfold farRow
  rw [hb]
  simp
 unfold farOk
 rw [Bool.and_eq_false_iff]
 right
 rw [List.all_eq_false]
 exact ⟨i, List.mem_range.2 hi, by simp [hr]⟩
def IntKeep (w w' : World) : Prop := ∀ a z, w.cell? a = some (.int .i64 z) → ∃ z', w'.cell? a = some (.int .i64 z')
theorem C_remake {α : Type} {d : Kd α} {w w' : World} {A : Option Addr} {n : Nat} {l : List α} (h : d.C w A n l) (Q : Nat → α → α → Prop)
  (key : ∀ (p : α) (cs : List Value) (ad : Addr) (j : Nat), A = some ad → l[j]? = some p → d.K w p cs → (∀ i u, cs[i]? = some u → w.cell? (ad.add (j * d.sz + i)) = some u) → ∃ p' cs', cs'.length = d.sz ∧ d.K w' p' cs' ∧ Q j p p' ∧ ∀ i u, cs'[i]? = some u → w'.cell? (ad.add (j * d.sz + i)) = some u) :
  ∃ l' : List α, l'.length = l.length ∧ d.C w' A n l' ∧ ∀ (j : Nat) (hj : j < l.length) (hj' : j < l'.length), Q j l[j] l'[j] := by
 obtain ⟨hl, hm, hc⟩ := h
 by_cases h0 : n = 0
 ·subst h0
  exact ⟨[], by simp [hl], ⟨by simp, by omega, fun h => absurd h (by omega)⟩, fun j hj => by omega⟩
 obtain ⟨ad, hA, hcs⟩ := hc (by omega)
 have each : ∀ j, ∃ p' : α, ∀ hj : j < l.length, Q j l[j] p' ∧ ∃ cs', cs'.length = d.sz ∧ d.K w' p' cs' ∧ ∀ i u, cs'[i]? = some u → w'.cell? (ad.add (j * d.sz + i)) = some u := fun j => by
  by_cases hj : j < l.length
  ·obtain ⟨c, hs, hk, hcell⟩ := hcs j _ (List.getElem?_eq_getElem hj)
   obtain ⟨p', cs', h1, h2, h3, h4⟩ := key _ c ad j hA (List.getElem?_eq_getElem hj) hk hcell
   exact ⟨p', fun _ => ⟨h3, cs', h1, h2, h4⟩⟩
  ·have hl0 : 0 < l.length := by omega
   exact ⟨l[0], fun h => absurd h hj⟩
 obtain ⟨f, hf⟩ := Classical.axiomOfChoice each
 refine ⟨(List.range l.length).map f, by simp, ⟨by simp [hl], hm, fun _ => ⟨ad, hA, fun j p hj => ?_⟩⟩, fun j hj hj' => ?_⟩
 ·have hjl : j < l.length := by
   have := (List.getElem?_eq_some_iff.1 hj).1
   simpa using this
  have hp : f j = p := by
   rw [List.getElem?_map, List.getElem?_range hjl] at hj
   simpa using hj
  subst hp
  obtain ⟨_, cs', h1, h2, h4⟩ := hf j hjl
  exact ⟨cs', h1, h2, h4⟩
 ·have : ((List.range l.length).map f)[j] = f j := by simp
  rw [this]
  exact (hf j hj).1
theorem C_int_keep {w w' : World} (hI : IntKeep w w') {A : Option Addr} {n : Nat} {l : List Int} (h : Kd.C (Kd.int .i64) w A n l) : ∃ l' : List Int, l'.length = l.length ∧ Kd.C (Kd.int .i64) w' A n l' := by
 obtain ⟨l', h1, h2, _⟩ := C_remake h (fun _ _ _ => True) (w' := w') (fun p cs ad j hA hj hk hc => by
  obtain rfl : cs = [.int .i64 p] := hk
  obtain ⟨z', hz⟩ := hI _ _ (hc 0 _ rfl)
  refine ⟨z', [.int .i64 z'], rfl, rfl, trivial, fun i u hu => ?_⟩
  match i, hu with
  | 0, hu => cases hu; exact hz
  | i + 1, hu => simp at hu)
 exact ⟨l', h1, h2⟩
theorem C_int_same {w w' : World} (hI : ∀ a z, w.cell? a = some (.int .i64 z) → w'.cell? a = some (.int .i64 z)) {A : Option Addr} {n : Nat} {l : List Int} (h : Kd.C (Kd.int .i64) w A n l) : Kd.C (Kd.int .i64) w' A n l := by
 obtain ⟨hl, hm, hc⟩ := h
 refine ⟨hl, hm, fun h0 => ?_⟩
 obtain ⟨ad, hA, hcs⟩ := hc h0
 refine ⟨ad, hA, fun j p hj => ?_⟩
 obtain ⟨c, hs, hk, hcell⟩ := hcs j p hj
 obtain rfl : c = [.int .i64 p] := hk
 refine ⟨[.int .i64 p], rfl, rfl, fun i u hu => ?_⟩
 match i, hu with
 | 0, hu => cases hu; exact hI _ _ (hcell 0 _ rfl)
 | i + 1, hu => simp at hu
theorem C_37_keep {w w' : World} (hI : IntKeep w w') {A : Option Addr} {n : Nat} {l : List S37} (h : Kd.C k37 w A n l) : ∃ l' : List S37, l'.length = l.length ∧ Kd.C k37 w' A n l' := by
 obtain ⟨l', h1, h2, _⟩ := C_remake h (fun _ _ _ => True) (w' := w') (fun p cs ad j hA hj hk hc => by
  obtain rfl := k37_open hk
  obtain ⟨z0, hz0⟩ := hI _ _ (hc 0 _ rfl)
  obtain ⟨z1, hz1⟩ := hI _ _ (hc 1 _ rfl)
  refine ⟨⟨z0, z1⟩, [.int .i64 z0, .int .i64 z1], rfl, k37_mk _ _, trivial, fun i u hu => ?_⟩
  match i, hu with
  | 0, hu => cases hu; exact hz0
  | 1, hu => cases hu; exact hz1
  | i + 2, hu => simp at hu)
 exact ⟨l', h1, h2⟩
theorem C_rows_keep {α : Type} {d : Kd α} {e : Nat} {w w' : World} (keep : ∀ {A : Option Addr} {n : Nat} {l : List α}, d.C w A n l → ∃ l' : List α, l'.length = l.length ∧ d.C w' A n l') {A : Option Addr} {n : Nat} {l : List (List α)} (h : Kd.C (Kd.slice e d) w A n l)
  (m : Nat) (hS : ∀ (ad : Addr) (j : Nat) (B : Option Addr) (k c : Nat), A = some ad → j < l.length → w.cell? (ad.add j) = some (.slice B k c) → w'.cell? (ad.add j) = some (.slice B k c) ∨ ∃ (B' : Option Addr) (c' : Nat) (r : List α), w'.cell? (ad.add j) = some (.slice B' r.length c') ∧ r.length ≤ c' ∧ r.length = m ∧ d.C w' B' r.length r) :
  ∃ l' : List (List α), l'.length = l.length ∧ Kd.C (Kd.slice e d) w' A n l' ∧ ∀ r' ∈ l', (∃ r ∈ l, r'.length = r.length) ∨ r'.length = m := by
 obtain ⟨l', h1, h2, h3⟩ := C_remake h (fun _ p p' => p'.length = p.length ∨ p'.length = m) (w' := w') (fun p cs ad j hA hj hk hc => by
  obtain ⟨B, c, rfl, hlc, hC⟩ := hk
  have x : w.cell? (ad.add j) = some (.slice B p.length c) := by
   have := hc 0 _ rfl
   change w.cell? (ad.add (j * 1 + 0)) = _ at this
   rwa [Nat.mul_one, Nat.add_zero] at this
  rcases hS ad j B p.length c hA (List.getElem?_eq_some_iff.1 hj).1 x with y | ⟨B', c', r, y, hrc, hrm, hC'⟩
  ·obtain ⟨p', hp, hC'⟩ := keep hC
   refine ⟨p', [.slice B p'.length c], rfl, ⟨B, c, rfl, by omega, by rw [hp]; exact hC'⟩, .inl hp, fun i u hu => ?_⟩
   match i, hu with
   | 0, hu =>
    cases hu
    show w'.cell? (ad.add (j * 1 + 0)) = _
    rw [Nat.mul_one, Nat.add_zero, hp]
    exact y
   | i + 1, hu => simp at hu
  ·refine ⟨r, [.slice B' r.length c'], rfl, ⟨B', c', rfl, hrc, hC'⟩, .inr hrm, fun i u hu => ?_⟩
   match i, hu with
   | 0, hu =>
    cases hu
    show w'.cell? (ad.add (j * 1 + 0)) = _
    rw [Nat.mul_one, Nat.add_zero]
    exact y
   | i + 1, hu => simp at hu)
 refine ⟨l', h1, h2, fun r' hr' => ?_⟩
 obtain ⟨j, hj, rfl⟩ := List.getElem_of_mem hr'
 rcases h3 j (by omega) hj with h | h
 ·exact .inl ⟨_, List.getElem_mem (by omega), h⟩
 ·exact .inr h
structure Shp (t t' : TabP) : Prop where
 g : t'.g.length = t.g.length
 far : t'.far.length = t.far.length
 out : t'.out.length = t.out.length
 inn : t'.inn.length = t.inn.length
 so : t'.so.length = t.so.length
 si : t'.si.length = t.si.length
 sm : TabSm t → TabSm t'
theorem Shp.cells {t t' : TabP} (h : Shp t t') (a : TabAt) : a.cells t' = a.cells t := by
 unfold TabAt.cells
 rw [h.g, h.far, h.out, h.inn, h.so, h.si]
theorem sm_rows {α : Type} {l l' : List (List α)} {m : Nat} (hm : m ≤ 1000000) (h : ∀ r' ∈ l', (∃ r ∈ l, r'.length = r.length) ∨ r'.length = m) (hl : ∀ r ∈ l, r.length ≤ 1000000) : ∀ r ∈ l', r.length ≤ 1000000 := fun r' hr' => by
 rcases h r' hr' with ⟨r, hr, e⟩ | e
 ·rw [e]; exact hl r hr
 ·rw [e]; exact hm
theorem TabC.int {w : World} {a : TabAt} {t : TabP} (hC : TabC w a t) {p : Addr} {z0 : Int} (hp : w.cell? p = some (.int .i64 z0)) (z : Int) : ∃ t', TabC (w.setCell p (.int .i64 z)) a t' ∧ Shp t t' := by
 have hI : IntKeep w (w.setCell p (.int .i64 z)) := fun q y hq => by
  by_cases e : p = q
  ·subst e; exact ⟨z, World.cell?_setCell_same _ _ _ hq⟩
  ·exact ⟨y, (World.cell?_setCell_other _ _ _ _ e).trans hq⟩
 have hS : ∀ (q : Addr) (A : Option Addr) (n c : Nat), w.cell? q = some (.slice A n c) → (w.setCell p (.int .i64 z)).cell? q = some (.slice A n c) := fun q A n c hq => by
  have e : p ≠ q := fun e => by subst e; rw [hp] at hq; cases hq
  exact (World.cell?_setCell_other _ _ _ _ e).trans hq
 obtain ⟨g, eg, cg⟩ := C_int_keep hI hC.g
 obtain ⟨far, ef, cf, sf⟩ := C_rows_keep (C_int_keep hI) hC.far 0 (fun ad j B k c _ _ h => .inl (hS _ _ _ _ h))
 obtain ⟨out, eo, co, so⟩ := C_rows_keep (C_37_keep hI) hC.out 0 (fun ad j B k c _ _ h => .inl (hS _ _ _ _ h))
 obtain ⟨inn, ei, ci, si⟩ := C_rows_keep (C_37_keep hI) hC.inn 0 (fun ad j B k c _ _ h => .inl (hS _ _ _ _ h))
 obtain ⟨s, es, cs, ss⟩ := C_rows_keep (C_int_keep hI) hC.so 0 (fun ad j B k c _ _ h => .inl (hS _ _ _ _ h))
 obtain ⟨u, eu, cu, su⟩ := C_rows_keep (C_int_keep hI) hC.si 0 (fun ad j B k c _ _ h => .inl (hS _ _ _ _ h))
 refine ⟨⟨g, far, out, inn, s, u⟩, ⟨by rw [eg]; exact cg, by rw [ef]; exact cf, by rw [eo]; exact co, by rw [ei]; exact ci, by rw [es]; exact cs, by rw [eu]; exact cu, by show g.length ≤ _; rw [eg]; exact hC.cg⟩, ⟨eg, ef, eo, ei, es, eu, fun h => ?_⟩⟩
 exact ⟨by show g.length ≤ _; rw [eg]; exact h.g, by show far.length ≤ _; rw [ef]; exact h.far, sm_rows (by omega) sf h.fars, by show out.length ≤ _; rw [eo]; exact h.out, sm_rows (by omega) so h.outs, by show inn.length ≤ _; rw [ei]; exact h.inn, sm_rows (by omega) si h.inns, by show s.length ≤ _; rw [es]; exact h.so, sm_rows (by omega) ss h.sos, by show u.length ≤ _; rw [eu]; exact h.si, sm_rows (by omega) su h.sis⟩
theorem od_block (a : Addr) (n : Nat) : (a.add n).block = a.block := by unfold Addr.add; split <;> rfl
theorem R_blk {α : Type} {d : Kd α} {e : Nat} {w : World} {b : Nat} {ok : Nat → Prop} {ad : Addr} {n c : Nat} {xs : List α} (h : Kd.R d e w b ok (.slice (some ad) n c) xs) : ∃ cells, w.heap[ad.block]? = some (.cells cells e (0, 0)) := R_typed h ad.block rfl
theorem TabR.rowI {w : World} {b : Nat} {a : TabAt} {t : TabP} (hT : TabR w b (.agg (a.cells t)) t) {p : Addr} {B0 : Option Addr} {n0 c0 : Nat} (hp : w.cell? p = some (.slice B0 n0 c0)) (hb : ∃ cells, w.heap[p.block]? = some (.cells cells 28 (0, 0))) (B : Option Addr) (c : Nat) (r : List Int) (hrc : r.length ≤ c) (hr : r.length ≤ 1000000) (hB : Kd.C (Kd.int .i64) w B r.length r) :
  ∃ t', TabC (w.setCell p (.slice B r.length c)) a t' ∧ Shp t t' ∧ t'.g = t.g := by
 have hI : ∀ q y, w.cell? q = some (.int .i64 y) → (w.setCell p (.slice B r.length c)).cell? q = some (.int .i64 y) := fun q y hq => by
  have e : p ≠ q := fun e => by subst e; rw [hp] at hq; cases hq
  exact (World.cell?_setCell_other _ _ _ _ e).trans hq
 have hK : IntKeep w (w.setCell p (.slice B r.length c)) := fun q y hq => ⟨y, hI q y hq⟩
 have hB' := C_int_same hI hB
 have hS : ∀ (q : Addr) (A : Option Addr) (n k : Nat), w.cell? q = some (.slice A n k) → (w.setCell p (.slice B r.length c)).cell? q = some (.slice A n k) ∨ ∃ (B' : Option Addr) (c' : Nat) (r' : List Int), (w.setCell p (.slice B r.length c)).cell? q = some (.slice B' r'.length c') ∧ r'.length ≤ c' ∧ r'.length = r.length ∧ Kd.C (Kd.int .i64) (w.setCell p (.slice B r.length c)) B' r'.length r' := fun q A n k hq => by
  by_cases e : p = q
  ·subst e; exact .inr ⟨B, c, r, World.cell?_setCell_same _ _ _ hq, hrc, rfl, hB'⟩
  ·exact .inl ((World.cell?_setCell_other _ _ _ _ e).trans hq)
 obtain ⟨a', e, hC⟩ := hT.reads
 obtain ⟨A0, c0', A1, c1, A2, c2, A3, c3, A4, c4, A5, c5⟩ := a
 obtain ⟨A0', c0'', A1', c1', A2', c2', A3', c3', A4', c4', A5', c5'⟩ := a'
 simp [TabAt.cells] at e
 obtain ⟨⟨rfl, rfl⟩, ⟨rfl, rfl⟩, ⟨rfl, rfl⟩, ⟨rfl, rfl⟩, ⟨rfl, rfl⟩, ⟨rfl, rfl⟩⟩ := e
 obtain ⟨vG, vF, vO, vI, vS, vT, ee, h1, h2, h3, h4, h5, h6⟩ := hT
 simp [TabAt.cells] at ee
 obtain ⟨rfl, rfl, rfl, rfl, rfl, rfl⟩ := ee
 obtain ⟨cb, hcb⟩ := hb
 have hfar : ∀ (xs : List (List S37)) (ad : Addr) (m k : Nat), Kd.R kRR 33 w b (fun _ => True) (.slice (some ad) m k) xs → ∀ (j : Nat) (A : Option Addr) (n k' : Nat), w.cell? (ad.add j) = some (.slice A n k') → (w.setCell p (.slice B r.length c)).cell? (ad.add j) = some (.slice A n k') := fun xs ad m k h j A n k' hq => by
  obtain ⟨ce, hce⟩ := R_blk h
  have e : p ≠ ad.add j := fun e => by
   have : p.block = ad.block := by rw [e, od_block]
   rw [this, hce] at hcb
   cases hcb
  exact (World.cell?_setCell_other _ _ _ _ e).trans hq
 obtain ⟨far, ef, cf, sf⟩ := C_rows_keep (C_int_keep hK) hC.far r.length (fun ad j B k c _ _ h => hS _ _ _ _ h)
 obtain ⟨out, eo, co, so⟩ := C_rows_keep (C_37_keep hK) hC.out 0 (fun ad j B k c hA _ h => .inl (by
  cases hA
  exact hfar _ _ _ _ h3 j _ _ _ h))
 obtain ⟨inn, ei, ci, si⟩ := C_rows_keep (C_37_keep hK) hC.inn 0 (fun ad j B k c hA _ h => .inl (by
  cases hA
  exact hfar _ _ _ _ h4 j _ _ _ h))
 obtain ⟨s, es, cs, ss⟩ := C_rows_keep (C_int_keep hK) hC.so r.length (fun ad j B k c _ _ h => hS _ _ _ _ h)
 obtain ⟨u, eu, cu, su⟩ := C_rows_keep (C_int_keep hK) hC.si r.length (fun ad j B k c _ _ h => hS _ _ _ _ h)
 refine ⟨⟨t.g, far, out, inn, s, u⟩, ⟨C_int_same hI hC.g, by rw [ef]; exact cf, by rw [eo]; exact co, by rw [ei]; exact ci, by rw [es]; exact cs, by rw [eu]; exact cu, hC.cg⟩, ⟨rfl, ef, eo, ei, es, eu, fun h => ?_⟩, rfl⟩
 exact ⟨h.g, by show far.length ≤ _; rw [ef]; exact h.far, sm_rows hr sf h.fars, by show out.length ≤ _; rw [eo]; exact h.out, sm_rows (by omega) so h.outs, by show inn.length ≤ _; rw [ei]; exact h.inn, sm_rows (by omega) si h.inns, by show s.length ≤ _; rw [es]; exact h.so, sm_rows hr ss h.sos, by show u.length ≤ _; rw [eu]; exact h.si, sm_rows hr su h.sis⟩
theorem TabR.rowP {w : World} {b : Nat} {a : TabAt} {t : TabP} (hT : TabR w b (.agg (a.cells t)) t) {p : Addr} {B0 : Option Addr} {n0 c0 : Nat} (hp : w.cell? p = some (.slice B0 n0 c0)) (hb : ∃ cells, w.heap[p.block]? = some (.cells cells 33 (0, 0))) (B : Option Addr) (c : Nat) (r : List S37) (hrc : r.length ≤ c) (hr : r.length ≤ 1000000) (hB : Kd.C k37 (w.setCell p (.slice B r.length c)) B r.length r) :
  ∃ t', TabC (w.setCell p (.slice B r.length c)) a t' ∧ Shp t t' ∧ t'.g = t.g := by
 have hI : ∀ q y, w.cell? q = some (.int .i64 y) → (w.setCell p (.slice B r.length c)).cell? q = some (.int .i64 y) := fun q y hq => by
  have e : p ≠ q := fun e => by subst e; rw [hp] at hq; cases hq
  exact (World.cell?_setCell_other _ _ _ _ e).trans hq
 have hK : IntKeep w (w.setCell p (.slice B r.length c)) := fun q y hq => ⟨y, hI q y hq⟩
 have hS : ∀ (q : Addr) (A : Option Addr) (n k : Nat), w.cell? q = some (.slice A n k) → (w.setCell p (.slice B r.length c)).cell? q = some (.slice A n k) ∨ ∃ (B' : Option Addr) (c' : Nat) (r' : List S37), (w.setCell p (.slice B r.length c)).cell? q = some (.slice B' r'.length c') ∧ r'.length ≤ c' ∧ r'.length = r.length ∧ Kd.C k37 (w.setCell p (.slice B r.length c)) B' r'.length r' := fun q A n k hq => by
  by_cases e : p = q
  ·subst e; exact .inr ⟨B, c, r, World.cell?_setCell_same _ _ _ hq, hrc, rfl, hB⟩
  ·exact .inl ((World.cell?_setCell_other _ _ _ _ e).trans hq)
 obtain ⟨a', e, hC⟩ := hT.reads
 obtain ⟨A0, c0', A1, c1, A2, c2, A3, c3, A4, c4, A5, c5⟩ := a
 obtain ⟨A0', c0'', A1', c1', A2', c2', A3', c3', A4', c4', A5', c5'⟩ := a'
 simp [TabAt.cells] at e
 obtain ⟨⟨rfl, rfl⟩, ⟨rfl, rfl⟩, ⟨rfl, rfl⟩, ⟨rfl, rfl⟩, ⟨rfl, rfl⟩, ⟨rfl, rfl⟩⟩ := e
 obtain ⟨vG, vF, vO, vI, vS, vT, ee, h1, h2, h3, h4, h5, h6⟩ := hT
 simp [TabAt.cells] at ee
 obtain ⟨rfl, rfl, rfl, rfl, rfl, rfl⟩ := ee
 obtain ⟨cb, hcb⟩ := hb
 have hfar : ∀ (xs : List (List Int)) (ad : Addr) (m k : Nat), Kd.R kII 28 w b (fun _ => True) (.slice (some ad) m k) xs → ∀ (j : Nat) (A : Option Addr) (n k' : Nat), w.cell? (ad.add j) = some (.slice A n k') → (w.setCell p (.slice B r.length c)).cell? (ad.add j) = some (.slice A n k') := fun xs ad m k h j A n k' hq => by
  obtain ⟨ce, hce⟩ := R_blk h
  have e : p ≠ ad.add j := fun e => by
   have : p.block = ad.block := by rw [e, od_block]
   rw [this, hce] at hcb
   cases hcb
  exact (World.cell?_setCell_other _ _ _ _ e).trans hq
 obtain ⟨far, ef, cf, sf⟩ := C_rows_keep (C_int_keep hK) hC.far 0 (fun ad j B k c hA _ h => .inl (by
  cases hA
  exact hfar _ _ _ _ h2 j _ _ _ h))
 obtain ⟨out, eo, co, so⟩ := C_rows_keep (C_37_keep hK) hC.out r.length (fun ad j B k c _ _ h => hS _ _ _ _ h)
 obtain ⟨inn, ei, ci, si⟩ := C_rows_keep (C_37_keep hK) hC.inn r.length (fun ad j B k c _ _ h => hS _ _ _ _ h)
 obtain ⟨s, es, cs, ss⟩ := C_rows_keep (C_int_keep hK) hC.so 0 (fun ad j B k c hA _ h => .inl (by
  cases hA
  exact hfar _ _ _ _ h5 j _ _ _ h))
 obtain ⟨u, eu, cu, su⟩ := C_rows_keep (C_int_keep hK) hC.si 0 (fun ad j B k c hA _ h => .inl (by
  cases hA
  exact hfar _ _ _ _ h6 j _ _ _ h))
 refine ⟨⟨t.g, far, out, inn, s, u⟩, ⟨C_int_same hI hC.g, by rw [ef]; exact cf, by rw [eo]; exact co, by rw [ei]; exact ci, by rw [es]; exact cs, by rw [eu]; exact cu, hC.cg⟩, ⟨rfl, ef, eo, ei, es, eu, fun h => ?_⟩, rfl⟩
 exact ⟨h.g, by show far.length ≤ _; rw [ef]; exact h.far, sm_rows (by omega) sf h.fars, by show out.length ≤ _; rw [eo]; exact h.out, sm_rows hr so h.outs, by show inn.length ≤ _; rw [ei]; exact h.inn, sm_rows hr si h.inns, by show s.length ≤ _; rw [es]; exact h.so, sm_rows (by omega) ss h.sos, by show u.length ≤ _; rw [eu]; exact h.si, sm_rows (by omega) su h.sis⟩
end Go.Proofs.YtfkejflmhidnaaaGreat.PAll
