import Derived.Test.YtfkejflmhidnaaaGreatQSoA
import Derived.Test.YtfkejflmhidnaaaGreatQHnF
import Derived.Test.YtfkejflmhidnaaaGreatQClC
set_option linter.all false
namespace Go.Proofs.YtfkejflmhidnaaaGreat.PAll
open RowKit YtfkejflmhidnaaaGreatW.PrintWords YtfkejflmhidnaaaGreatW.PrintLast YtfkejflmhidnaaaGreatW.PrintMore
open Hp hiding Good
def greatL (n : Nat) (at' : List Int) (m : Nat) : List Int := (List.range m).map fun i => rd at' ((n - 1 - i : Nat) : Int)
theorem greatL_succ (n : Nat) (at' : List Int) (m : Nat) : greatL n at' (m + 1) = greatL n at' m ++ [rd at' ((n - 1 - m : Nat) : Int)] := by
 simp [greatL, List.range_succ]
theorem greatL_len (n : Nat) (at' : List Int) (m : Nat) : (greatL n at' m).length = m := by simp [greatL]
theorem ints_app (l m : List Int) : ints (l ++ m) = ints l ++ ints m := by simp [ints]
theorem own_slice {w : World} {B e sz n : Nat} {v : Value} {xs : List Value} (h : w.ownsRow B e sz v n xs) : ∃ A cl, v = .slice A n cl := by
 rcases h.2 with ⟨e1, e2⟩ | ⟨g, cap, cur, e1, _⟩
 ·exact ⟨none, 0, by rw [e1, e2]⟩
 ·exact ⟨_, cap, e1⟩
set_option maxRecDepth 100000 in
set_option maxHeartbeats 4000000 in
theorem great_walk (w : World) (hb n : Nat) (h : HierP) (H : HierRep w hb n h) (k : Int) :
  Calls Tryz.prog 44 #[.pointer (some ⟨hb, 0, none⟩), .int .i64 k] w fun r w' => ∃ vr, r = .returned vr ∧ w'.ownsRow w.heap.size 3 1 vr (clipP n k).toNat (ints (sortP (greatL n h.at' (clipP n k).toNat))) ∧ Below w.heap.size w w' := by
 obtain ⟨i0, hi0, hz0, hz1, hz2⟩ := info_parts info3'
 have hsm := H.small
 have HC := clip_walk w hb n h H k
 obtain ⟨c1, c2⟩ := clipP_in n k
 obtain ⟨m, hm⟩ := Int.eq_ofNat_of_zero_le c1
 rw [hm] at HC c2 ⊢
 have HCL := Lib.hid HC
 have HH := Lib.hid H
 have hmn : m ≤ n := by omega
 have HR0 : Hid (w.ownsRow w.heap.size 3 1 (.slice none 0 0) 0 (ints (greatL n h.at' 0))) := Lib.hid (World.ownsRow_nil _ _ _ _)
 have HB0 := Lib.hid (Below.refl w.heap.size w)
 clear HC H hm c1 c2
 show Calls Tryz.prog 44 _ w fun r w' => ∃ vr, r = .returned vr ∧ w'.ownsRow w.heap.size 3 1 vr m (ints (sortP (greatL n h.at' m))) ∧ Below w.heap.size w w'
 go_enter Tryz.func44, Tryz.ntmps44
 go_wp2_with (first | (go_at_call 95; refine HCL.out.mono ?_; rintro e w' ⟨rfl, rfl⟩))
 go_loopw [5, 10] (fun v5 v10 wr => ∃ i : Nat, v10 = .int .i64 i ∧ i ≤ m ∧ Hid (wr.ownsRow w.heap.size 3 1 v5 i (ints (greatL n h.at' i))) ∧ Hid (Below w.heap.size w wr)) (fun _ v10 _ => m - (intOf v10).toNat)
 case atStart => exact ⟨0, rfl, by omega, HR0, HB0⟩
 case round =>
  obtain ⟨i, rfl, hi, HR, HB⟩ := hrel
  by_cases him : i < m
  ·have hw1 : IntKind.i64.wrap ((n : Int) - 1) = (n : Int) - 1 := i64w (by omega) (by omega) (by omega)
   have hw2 : IntKind.i64.wrap ((n : Int) - 1 - (i : Int)) = ((n - 1 - i : Nat) : Int) := i64w (by omega) (by omega) (by omega)
   have hw3 : (n : Int) - 1 - (i : Int) = ((n - 1 - i : Nat) : Int) := by omega
   have HRW := Lib.hid (HH.out.below HB.out)
   have hi1 : (i : Int) < (m : Int) := by omega
   obtain ⟨A, cl, rfl⟩ := own_slice HR.out
   obtain ⟨x, hx⟩ : ∃ x, rd h.at' ((n - 1 - i : Nat) : Int) = x := ⟨_, rfl⟩
   have HAT := at_walk wr hb n h HRW.out (n - 1 - i) (by omega)
   rw [hx] at HAT
   have HATW := Lib.hid HAT
   have HX := Lib.hid hx
   have HN := Lib.hid (n_walk wr hb n h HRW.out)
   have HOWN : Hid ((wr.alloc (.cells #[.int .i64 x] 3)).ownsRow w.heap.size 3 1 (.slice A i cl) i (ints (greatL n h.at' i))) := Lib.hid (HR.out.alloc _)
   have hsz := HB.out.size
   have news : ∀ (j : Nat) (u : Value), [Value.int .i64 x][j]? = some u → (wr.alloc (.cells #[.int .i64 x] 3)).cell? ((⟨wr.heap.size, 0, none⟩ : Addr).add j) = some u := World.news_of_block (cs := #[.int .i64 x]) (t := 3) (fr := (0, 0)) (heap_alloc_new wr _)
   have HNEWS := Lib.hid news
   clear HAT hx news
   go_wp2_with (first | (go_at_call 46; refine HN.out.mono ?_; rintro e w' ⟨rfl, rfl⟩) | (rw [hw3]; go_at_call 96; refine HATW.out.mono ?_; rintro e w' ⟨rfl, rfl⟩) | (go_at_call 96; refine HATW.out.mono ?_; rintro e w' ⟨rfl, rfl⟩) | (at_builtin; refine wpList_append_lies _ (by rfl) (.tmp 13) (.tmp 21) 28 (by rfl) w.heap.size 3 i0 (.int .i64 0) 1 8 Tryz.underlying28 hi0 hz0 hz1 hz2 rfl (by decide) (.slice A i cl) i (ints (greatL n h.at' i)) (by rfl) HOWN.out ⟨wr.heap.size, 0, none⟩ 1 1 [.int .i64 x] (by rfl) (by rfl) HNEWS.out (by simp [Value.oneCell']) (by decide) (by simp only [maxLen]; omega) (by omega) (by simp; omega) (wr.heap.size + 1) (by simp) ?_; intro g cap w1 hown hgrow hat hlt1; have HOWN1 := Lib.hid hown; have HGROW := Lib.hid hgrow; clear hown hgrow hat hlt1))
   go_roundw
   case measure => simp [intOf]; omega
   case rel =>
    refine ⟨i + 1, by go_num, by omega, Lib.hid ?_, Lib.hid ?_⟩
    ·rw [greatL_succ, HX.out, ints_app]; exact HOWN1.out
    ·exact (HB.out.alloc hsz _).grown HGROW.out (by simp; omega) (fun k hk => (World.ownsRow.lt HR.out k hk).1)
  ·obtain rfl : i = m := by omega
   have HSO := Lib.hid (sort_walk wr w.heap.size _ (greatL n h.at' i) (by rw [greatL_len]; exact HR.out) (by rw [greatL_len]; omega))
   go_wp2_with (first | (go_at_call 97; refine HSO.out.mono ?_; rintro e w' ⟨rfl, hS⟩; have HS := Lib.hid hS; clear hS))
   go_ret
   have h1 := HS.out.1
   rw [greatL_len] at h1
   refine ⟨_, rfl, h1, HB.out.trans (Only.below HS.out.2 HB.out.size (fun k hk => (World.ownsRow.lt HR.out k hk).1))⟩
def EdgeOf (rank : List Int) (ways : List S71) (k : Nat) (b : Bool) (v : Nat) (x : S75) : Prop :=
 ∃ i : Nat, i < k ∧ x.f2 = i ∧ x.f1 = (rd_T71 ways i).f2.f0 ∧
  ((b = true ∧ rd rank (rd_T71 ways i).f0 < rd rank (rd_T71 ways i).f1 ∧ (rd_T71 ways i).f0.toNat = v ∧ x.f0 = (rd_T71 ways i).f1) ∨
   (b = false ∧ ¬ rd rank (rd_T71 ways i).f0 < rd rank (rd_T71 ways i).f1 ∧ (rd_T71 ways i).f1.toNat = v ∧ x.f0 = (rd_T71 ways i).f0))
theorem EdgeOf.succ {rank : List Int} {ways : List S71} {k : Nat} {b : Bool} {v : Nat} {x : S75} (h : EdgeOf rank ways k b v x) : EdgeOf rank ways (k + 1) b v x := by
 obtain ⟨i, h1, h2⟩ := h
 exact ⟨i, by omega, h2⟩
theorem buildB_rows (rank : List Int) (ways : List S71) (n : Nat) : ∀ (k : Nat) (b : Bool), (buildB rank ways n k b).length = n
 | 0, b => by simp [buildB]
 | k + 1, b => by
  have ih := buildB_rows rank ways n k
  show (stepB rank (buildB rank ways n k) k (rd_T71 ways (k : Int)) b).length = n
  unfold stepB
  split <;> (cases b <;> simp [updB, ih])
theorem buildB_mem (rank : List Int) (ways : List S71) (n : Nat) (x : S75) : ∀ (k : Nat) (b : Bool) (v : Nat), x ∈ (buildB rank ways n k b).getD v [] → EdgeOf rank ways k b v x
 | 0, b, v, h => by
  exfalso
  have : (List.replicate n ([] : List S75)).getD v [] = [] := by
   simp only [List.getD, List.getElem?_replicate]
   split <;> rfl
  rw [show buildB rank ways n 0 b = List.replicate n [] from rfl, this] at h
  simp at h
 | k + 1, b, v, h => by
  have ih := buildB_mem rank ways n x k
  have hl := buildB_rows rank ways n k
  have key : ∀ (c : Bool) (j : Nat) (e : S75), x ∈ (updB (buildB rank ways n k) c ((buildB rank ways n k c).set j (putP ((buildB rank ways n k c).getD j []) e)) b).getD v [] → (b = c ∧ v = j ∧ x = e) ∨ EdgeOf rank ways k b v x := fun c j e hx => by
   by_cases hb : b = c
   ·subst hb
    rw [updB_same] at hx
    by_cases hj : v = j
    ·subst hj
     rcases Nat.lt_or_ge v (buildB rank ways n k b).length with h | h
     ·rw [getD_set_same _ _ _ _ h, mem_putP] at hx
      rcases hx with hx | hx
      ·exact .inl ⟨rfl, rfl, hx⟩
      ·exact .inr (ih b v hx)
     ·have : ((buildB rank ways n k b).set v (putP ((buildB rank ways n k b).getD v []) e)).getD v [] = [] := by simp [List.getD, h]
      rw [this] at hx
      simp at hx
    ·rw [getD_set_ne' _ _ _ _ _ hj] at hx
     exact .inr (ih b v hx)
   ·rw [updB_ne _ _ hb] at hx
    exact .inr (ih b v hx)
  have hs : buildB rank ways n (k + 1) = stepB rank (buildB rank ways n k) k (rd_T71 ways (k : Int)) := rfl
  rw [hs] at h
  unfold stepB at h
  split at h
  ·rename_i hlt
   rcases key _ _ _ h with ⟨rfl, rfl, rfl⟩ | h2
   ·exact ⟨k, by omega, rfl, rfl, .inl ⟨rfl, hlt, rfl, rfl⟩⟩
   ·exact h2.succ
  ·rename_i hlt
   rcases key _ _ _ h with ⟨rfl, rfl, rfl⟩ | h2
   ·exact ⟨k, by omega, rfl, rfl, .inr ⟨rfl, hlt, rfl, rfl⟩⟩
   ·exact h2.succ
theorem upd_has (P : Bool → List (List S75)) (n : Nat) (hl : ∀ b, (P b).length = n) (c : Bool) (j : Nat) (e x : S75) (b : Bool) (v : Nat) (hv : v < n) (h : (b = c ∧ v = j ∧ x = e) ∨ x ∈ (P b).getD v []) :
  x ∈ (updB P c ((P c).set j (putP ((P c).getD j []) e)) b).getD v [] := by
 by_cases hb : b = c
 ·subst hb
  rw [updB_same]
  by_cases hj : v = j
  ·subst hj
   rw [getD_set_same _ _ _ _ (by rw [hl]; exact hv), mem_putP]
   rcases h with ⟨_, _, h⟩ | h
   ·exact .inl h
   ·exact .inr h
  ·rw [getD_set_ne' _ _ _ _ _ hj]
   rcases h with ⟨_, h, _⟩ | h
   ·exact absurd h hj
   ·exact h
 ·rw [updB_ne _ _ hb]
  rcases h with ⟨h, _, _⟩ | h
  ·exact absurd h hb
  ·exact h
theorem buildB_has (rank : List Int) (ways : List S71) (n : Nat) (x : S75) : ∀ (k : Nat) (b : Bool) (v : Nat), v < n → EdgeOf rank ways k b v x → x ∈ (buildB rank ways n k b).getD v []
 | 0, b, v, hv, h => by
  obtain ⟨i, hi, _⟩ := h
  omega
 | k + 1, b, v, hv, h => by
  have ih := buildB_has rank ways n x k b v hv
  have hl := buildB_rows rank ways n k
  obtain ⟨i, hi, e2, e1, hr⟩ := h
  have hs : buildB rank ways n (k + 1) = stepB rank (buildB rank ways n k) k (rd_T71 ways (k : Int)) := rfl
  rw [hs]
  unfold stepB
  have old : i < k → x ∈ (buildB rank ways n k b).getD v [] := fun hik => ih ⟨i, hik, e2, e1, hr⟩
  obtain ⟨x0, x1, x2⟩ := x
  simp only at e1 e2 hr
  by_cases hik : i < k
  ·split
   ·exact upd_has _ n hl _ _ _ _ _ _ hv (.inr (old hik))
   ·exact upd_has _ n hl _ _ _ _ _ _ hv (.inr (old hik))
  ·obtain rfl : i = k := by omega
   rcases hr with ⟨rfl, h1, h2, h3⟩ | ⟨rfl, h1, h2, h3⟩
   ·rw [if_pos h1]
    exact upd_has _ n hl _ _ _ _ _ _ hv (.inl ⟨rfl, h2.symm, by rw [e2, e1, h3]⟩)
   ·rw [if_neg h1]
    exact upd_has _ n hl _ _ _ _ _ _ hv (.inl ⟨rfl, h2.symm, by rw [e2, e1, h3]⟩)
theorem hok_new {n : Nat} {rank : List Int} {ways : List S71} (V : VH n rank ways) (x : List Int) :
  HOk n 1125899906842624 ⟨rank, x, buildB rank ways n ways.length true, buildB rank ways n ways.length false⟩ := by
 have ed : ∀ (b : Bool) (v : Nat), EdgesOk n 1125899906842624 ((buildB rank ways n ways.length b).getD v []) := fun b v e he => by
  obtain ⟨i, hi, e2, e1, hr⟩ := buildB_mem rank ways n e ways.length b v he
  obtain ⟨h0, h1, h2, h3, _, h5, h6⟩ := V.ends _ (rd66_mem ways i hi)
  rcases hr with ⟨_, _, _, h⟩ | ⟨_, _, _, h⟩
  ·exact ⟨by omega, by omega, by omega, by omega⟩
  ·exact ⟨by omega, by omega, by omega, by omega⟩
 exact ⟨fun v hv => (V.rin v hv).1, fun v hv => ed true v, fun v hv => ed false v, by decide, by decide⟩
theorem pigeon : ∀ (n : Nat) (f : Nat → Nat), (∀ k, k < n → f k < n) → (∀ i j, i < n → j < n → f i = f j → i = j) → ∀ v, v < n → ∃ k, k < n ∧ f k = v
 | 0, _, _, _, v, hv => by omega
 | n + 1, f, hf, hi, v, hv => by
  have ih := pigeon n (fun k => if f k = n then f n else f k)
   (fun k hk => by
    have h1 := hf k (by omega)
    have h2 := hf n (by omega)
    show (if f k = n then f n else f k) < n
    split
    ·rename_i e
     have : f n ≠ n := fun e2 => by have := hi k n (by omega) (by omega) (e.trans e2.symm); omega
     omega
    ·omega)
   (fun i j hi' hj' e => by
    (try simp only at e)
    by_cases h1 : f i = n
    ·by_cases h2 : f j = n
     ·exact hi i j (by omega) (by omega) (h1.trans h2.symm)
     ·rw [if_pos h1, if_neg h2] at e
      have := hi n j (by omega) (by omega) e
      omega
    ·by_cases h2 : f j = n
     ·rw [if_neg h1, if_pos h2] at e
      have := hi i n (by omega) (by omega) e
      omega
     ·rw [if_neg h1, if_neg h2] at e
      exact hi i j (by omega) (by omega) e)
  have reach : ∀ u, u < n → ∃ k, k < n + 1 ∧ f k = u := fun u hu => by
   obtain ⟨k, hk, e⟩ := ih u hu
   (try simp only at e)
   by_cases h1 : f k = n
   ·rw [if_pos h1] at e; exact ⟨n, by omega, e⟩
   ·rw [if_neg h1] at e; exact ⟨k, by omega, e⟩
  by_cases hvn : v = n
  ·by_cases hn : f n = n
   ·exact ⟨n, by omega, by omega⟩
   ·have hlt : f n < n := by have := hf n (by omega); omega
    obtain ⟨k, hk, e⟩ := ih (f n) hlt
    (try simp only at e)
    by_cases h1 : f k = n
    ·exact ⟨k, by omega, by omega⟩
    ·rw [if_neg h1] at e
     have := hi k n (by omega) (by omega) e
     omega
  ·exact reach v (by omega)
theorem mem66 {l : List S71} {x : S71} (h : x ∈ l) : ∃ i : Nat, i < l.length ∧ rd_T71 l (i : Int) = x := by
 obtain ⟨i, hi, e⟩ := List.getElem_of_mem h
 exact ⟨i, hi, by simp [rd_T71, List.getD, hi, e]⟩
theorem great_mem {n : Nat} {rank at' : List Int} (hr : ∀ v : Nat, v < n → 0 ≤ rd rank v ∧ rd rank v < n) (hi : ∀ u v : Nat, u < n → v < n → rd rank u = rd rank v → u = v)
  (ha : ∀ u : Nat, u < n → rd at' (rd rank u) = u) (k : Nat) (hk : k < n) : ∃ u : Nat, u < n ∧ rd at' (k : Int) = u ∧ rd rank (u : Int) = k := by
 obtain ⟨u, hu, e⟩ := pigeon n (fun u => (rd rank (u : Int)).toNat) (fun u hu => by have := hr u hu; omega) (fun i j h1 h2 e => hi i j h1 h2 (by have := hr i h1; have := hr j h2; omega)) k hk
 have e' : rd rank (u : Int) = k := by have := hr u hu; omega
 exact ⟨u, hu, by rw [← e']; exact ha u hu, e'⟩
theorem great_nodup {n : Nat} {rank at' : List Int} (hr : ∀ v : Nat, v < n → 0 ≤ rd rank v ∧ rd rank v < n) (hi : ∀ u v : Nat, u < n → v < n → rd rank u = rd rank v → u = v)
  (ha : ∀ u : Nat, u < n → rd at' (rd rank u) = u) : ∀ m : Nat, m ≤ n → (greatL n at' m).Nodup ∧ ∀ x ∈ greatL n at' m, ∃ u : Nat, u < n ∧ x = u ∧ (n : Int) - m ≤ rd rank (u : Int)
 | 0, _ => by simp [greatL]
 | m + 1, hm => by
  obtain ⟨h1, h2⟩ := great_nodup hr hi ha m (by omega)
  obtain ⟨u, hu, e1, e2⟩ := great_mem hr hi ha (n - 1 - m) (by omega)
  rw [greatL_succ]
  refine ⟨?_, ?_⟩
  ·rw [List.nodup_append]
   refine ⟨h1, by simp, fun a ha' b hb => ?_⟩
   obtain ⟨x, hx, rfl, hxr⟩ := h2 a ha'
   simp only [List.mem_singleton] at hb
   rw [hb, e1]
   intro e
   have : x = u := by omega
   rw [this, e2] at hxr
   omega
  ·intro x hx
   rcases List.mem_append.1 hx with hx | hx
   ·obtain ⟨y, hy, rfl, hyr⟩ := h2 x hx
    exact ⟨y, hy, rfl, by omega⟩
   ·simp only [List.mem_singleton] at hx
    exact ⟨u, hu, by rw [hx, e1], by rw [e2]; omega⟩
theorem sortP_pair (l : List Int) : (sortP l).Pairwise (fun a b => a ≤ b) := by
 have := List.pairwise_mergeSort (le := fun x y : Int => decide (x ≤ y)) (fun a b c h1 h2 => by simp at *; omega) (fun a b => by simp; omega) l
 exact this.imp (fun h => by simpa using h)
theorem sorted_lt {l : List Int} (h1 : l.Pairwise (fun a b => a ≤ b)) (h2 : l.Nodup) : l.Pairwise (fun a b => a < b) := by
 have := h1.and h2
 exact this.imp (fun h => by have := h.1; have := h.2; omega)
structure SInv (n : Nat) (P : Int → Int → Prop) (q : Q) (out : Int → Option Int) : Prop where
 keys : ∀ x k : Int, 0 ≤ x → x < n → key q x = some k → P x k
 outs : ∀ x y : Int, out x = some y → P x y
theorem SInv.relaxd {n : Nat} {P : Int → Int → Prop} {b wm d : Int} {out : Int → Option Int} (d0 : 0 ≤ d) (d1 : d ≤ b) : ∀ (l : List S75) (q : Q), EdgesOk n wm l → (∀ e ∈ l, P e.f0 (d + e.f1)) → CInv n (b + wm) q out → SInv n P q out → SInv n P (relax out d l q) out
 | [], q, _, _, _, h => h
 | e :: l, q, hl, hp, hc, h => by
  refine SInv.relaxd d0 d1 l _ (fun x hx => hl x (by simp [hx])) (fun x hx => hp x (by simp [hx])) (hc.stepd (hl e (by simp)) d0 d1) ?_
  by_cases hf : fresh out d e q = true
  ·rw [if_pos hf]
   obtain ⟨h0, h1, _⟩ := hl e (by simp)
   obtain ⟨_, k2⟩ := put_ok (d + e.f1) hc.ok h0 h1
   refine ⟨fun x k x0 x1 hk => ?_, h.outs⟩
   rw [k2 x x0 x1] at hk
   by_cases hx : x = e.f0
   ·rw [if_pos hx] at hk
    cases hk
    subst hx
    exact hp e (by simp)
   ·rw [if_neg hx] at hk
    exact h.keys x k x0 x1 hk
  ·rw [if_neg hf]; exact h
theorem SInv.pop {n : Nat} {P : Int → Int → Prop} {b : Int} {q : Q} {out : Int → Option Int} (hc : CInv n b q out) (hq : 0 < q.l.length) (h : SInv n P q out) :
  P (nth q.l 0).id (nth q.l 0).key ∧ SInv n P (drop q (nth q.l 0).id) (upd out (nth q.l 0).id (nth q.l 0).key) := by
 obtain ⟨h0, h1, h2, h3, h4, h5⟩ := hc.first hq
 obtain ⟨_, _, d2⟩ := drop_ok hc.ok h0 h1 h5
 have hP := h.keys _ _ h0 h1 (hc.ok.good.key_at hq)
 refine ⟨hP, fun x k x0 x1 e => ?_, fun x y e => ?_⟩
 ·rw [d2 x x0 x1] at e
  by_cases hx : x = (nth q.l 0).id
  ·rw [if_pos hx] at e; cases e
  ·rw [if_neg hx] at e; exact h.keys x k x0 x1 e
 ·simp only [upd] at e
  by_cases hx : x = (nth q.l 0).id
  ·rw [if_pos hx] at e
   cases e
   subst hx
   exact hP
  ·rw [if_neg hx] at e; exact h.outs x y e
theorem climbGo_sound {n : Nat} {rank : List Int} {top wm : Int} {up : List (List S75)} {P : Int → Int → Prop} (hup : ∀ v : Nat, v < n → EdgesOk n wm (edges up v)) (hw : 0 ≤ wm)
  (hP : ∀ (x : Nat) (d : Int), x < n → P x d → rd rank (x : Int) < top → ∀ e ∈ edges up x, P e.f0 (d + e.f1)) :
  ∀ (f : Nat) (b : Int) (q : Q) (out : Int → Option Int), CInv n b q out → SInv n P q out → ∀ x y : Int, climbGo rank top up f q out x = some y → P x y
 | 0, b, q, out, h, s, x, y, e => s.outs x y e
 | f + 1, b, q, out, h, s, x, y, e => by
  unfold climbGo at e
  by_cases hq : q.l = []
  ·rw [if_pos hq] at e
   exact s.outs x y e
  ·rw [if_neg hq] at e
   have hl : 0 < q.l.length := List.length_pos_iff.2 hq
   have h1 := h.first hl
   have h2 := h.pop hl
   obtain ⟨hp, s2⟩ := s.pop h hl
   by_cases ht : rd rank (nth q.l 0).id ≥ top
   ·rw [if_pos ht] at e
    exact climbGo_sound hup hw hP f (b + wm) _ _ (h2.mono (by omega)) s2 x y e
   ·rw [if_neg ht] at e
    obtain ⟨u, hu⟩ : ∃ u : Nat, (nth q.l 0).id = u := ⟨(nth q.l 0).id.toNat, by omega⟩
    have hut : (nth q.l 0).id.toNat = u := by omega
    rw [hut] at e
    have hun : u < n := by omega
    have he : ∀ e ∈ edges up u, P e.f0 ((nth q.l 0).key + e.f1) := hP u _ hun (by rw [← hu]; exact hp) (by rw [← hu]; omega)
    refine climbGo_sound hup hw hP f (b + wm) _ _ (CInv.relaxd h1.2.2.2.1 h1.2.2.2.2.1 _ _ (hup _ hun) (h2.mono (by omega))) (SInv.relaxd h1.2.2.2.1 h1.2.2.2.2.1 _ _ (hup _ hun) he (h2.mono (by omega)) s2) x y e
theorem SInv.start {n v : Nat} {P : Int → Int → Prop} (hv : v < n) (h : P v 0) : SInv n P (Hp.put ⟨[], List.replicate n 0⟩ v 0) (fun _ => none) := by
 obtain ⟨_, k2⟩ := put_ok (id := (v : Int)) 0 (empty_ok n) (by omega) (by omega)
 refine ⟨fun x k x0 x1 hk => ?_, fun x y e => by cases e⟩
 rw [k2 x x0 x1] at hk
 by_cases hx : x = v
 ·rw [if_pos hx] at hk; cases hk; subst hx; exact h
 ·rw [if_neg hx, empty_key] at hk; cases hk
theorem climb_sound {n : Nat} {rank : List Int} {top wm : Int} {up : List (List S75)} {P : Int → Int → Prop} (hup : ∀ v : Nat, v < n → EdgesOk n wm (edges up v)) (hw : 0 ≤ wm)
  (hP : ∀ (x : Nat) (d : Int), x < n → P x d → rd rank (x : Int) < top → ∀ e ∈ edges up x, P e.f0 (d + e.f1)) (v : Nat) (hv : v < n) (h0 : P v 0) (x y : Int) (e : climbF n rank top up v x = some y) : P x y :=
 climbGo_sound hup hw hP (n + 1) 0 _ _ (CInv.start n v hv) (SInv.start hv h0) x y e
end Go.Proofs.YtfkejflmhidnaaaGreat.PAll
