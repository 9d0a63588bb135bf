import Derived.Test.YtfkejflmhidnaaaGreatQTkA
import Derived.Test.YtfkejflmhidnaaaGreatQNeA
import Derived.Test.YtfkejflmhidnaaaGreatQNeP
set_option linter.all false
namespace Go.Proofs.YtfkejflmhidnaaaGreat.PAll
open RowKit YtfkejflmhidnaaaGreatW.PrintWords YtfkejflmhidnaaaGreatW.PrintLast YtfkejflmhidnaaaGreatW.PrintMore
open Hp hiding Good
structure BS (w W : World) (gt gh n : Nat) (Sa Sk S1 S2 S3 vr vw : Value) (t : TP) (rk : List Int) (H : List S71) : Prop where
 gb : W.heap[w.heap.size]? = some (.cells #[.int .i64 n, Sa, Sk] 77 (0, 0))
 zb : W.heap[w.heap.size + 1]? = some (.cells #[.slice none 0 0, .slice none 0 0] 31 (0, 0))
 tb : TB W gt n S1 S2 S3
 hb : W.heap[gh]? = some (.cells #[vr, vw] 31 (0, 0))
 gt1 : w.heap.size + 1 < gt
 gh1 : w.heap.size + 1 < gh
 ne : gt ≠ gh
 bel : Below w.heap.size w W
 tr : TR W w.heap.size (fun k => some k ≠ vr.ownBlock) t S1 S2 S3
 rr : Kd.R (Kd.int .i64) 3 W w.heap.size (fun _ => True) vr rk
 rw : Kd.R k71 71 W w.heap.size (fun _ => True) vw H
 tn : t.n = n
section
variable {w W W' w2 : World} {gt gh n : Nat} {Sa Sk S1 S2 S3 vr vw S1' S2' S3' vr' vw' : Value} {t t' : TP} {rk : List Int} {H : List S71}
theorem BS.below (h : BS w W gt gh n Sa Sk S1 S2 S3 vr vw t rk H) (b : Below W.heap.size W W') : BS w W' gt gh n Sa Sk S1 S2 S3 vr vw t rk H :=
 ⟨(b.block _ (blk_lt h.gb)).trans h.gb, (b.block _ (blk_lt h.zb)).trans h.zb, h.tb.below b, (b.block _ (blk_lt h.hb)).trans h.hb, h.gt1, h.gh1, h.ne, h.bel.trans (b.mono h.bel.size), h.tr.below b, Kd.R_below h.rr b, Kd.R_below h.rw b, h.tn⟩
theorem put4_other {g k : Nat} {x y z u : Value} {o : Obj} (h : W.heap[k]? = some o) (hk : k ≠ g) : (put4 W g x y z u).heap[k]? = some o :=
 (Below.heap_setCell _ ⟨g, 3, none⟩ u k hk).trans ((Below.heap_setCell _ ⟨g, 2, none⟩ z k hk).trans ((Below.heap_setCell _ ⟨g, 1, none⟩ y k hk).trans ((Below.heap_setCell W ⟨g, 0, none⟩ x k hk).trans h)))
theorem TB.put4 {g m : Nat} {a b c : Value} (h : TB W g m a b c) {x : Nat} {y z u : Value} : TB (put4 W g (.int .i64 x) y z u) g x y z u := by
 have h0 := blk_put h 0 (.int .i64 x) (cs' := #[.int .i64 x, a, b, c]) rfl
 have h1 := blk_put h0 1 y (cs' := #[.int .i64 x, y, b, c]) rfl
 have h2 := blk_put h1 2 z (cs' := #[.int .i64 x, y, z, c]) rfl
 exact blk_put h2 3 u (cs' := #[.int .i64 x, y, z, u]) rfl
theorem R_put4' {α : Type} {d : Kd α} {e base g m : Nat} {ok : Nat → Prop} {a b c v : Value} {xs : List α} (hR : d.R e W base ok v xs) (h : TB W g m a b c) (he : ∀ q, q ∈ e :: d.E → q ≠ 121) {x y z u : Value} : d.R e (put4 W g x y z u) base ok v xs := by
 have h0 := blk_put h 0 x (cs' := #[x, a, b, c]) rfl
 have h1 := blk_put h0 1 y (cs' := #[x, y, b, c]) rfl
 have h2 := blk_put h1 2 z (cs' := #[x, y, z, c]) rfl
 exact Kd.R_set (Kd.R_set (Kd.R_set (Kd.R_set hR h he 0 x) h0 he 1 y) h1 he 2 z) h2 he 3 u
theorem BS.lay (h : BS w W gt gh n Sa Sk S1 S2 S3 vr vw t rk H) (ht : TR W w.heap.size (fun k => some k ≠ vr.ownBlock) t' S1' S2' S3') (hn : t'.n = n) : BS w (put4 W gt (.int .i64 n) S1' S2' S3') gt gh n Sa Sk S1' S2' S3' vr vw t' rk H := by
 have h1 := h.gt1
 have hne := h.ne
 exact ⟨put4_other h.gb (by omega), put4_other h.zb (by omega), h.tb.put4, put4_other h.hb (by omega), h.gt1, h.gh1, h.ne, put4_below h.bel (by omega),
  ⟨R_put4' ht.r1 h.tb (by decide), R_put4' ht.r2 h.tb (by decide), R_put4' ht.r3 h.tb (by decide), ht.e1, ht.e3, ht.small, ht.few⟩, R_put4' h.rr h.tb (by decide), R_put4' h.rw h.tb (by decide), hn⟩
theorem TR.fresh {b : Nat} (h : TR W b (fun _ => True) t S1 S2 S3) (hr : ∀ k, vr.ownBlock = some k → k < b) (hb : w.heap.size ≤ b) : TR W w.heap.size (fun k => some k ≠ vr.ownBlock) t S1 S2 S3 :=
 ⟨Kd.R_reok (ok := fun k => some k ≠ vr.ownBlock) rfl (Kd.R_lower h.r1 hb) (fun k hk e => by have := Kd.R_base h.r1 k hk; have := hr k e.symm; omega), Kd.R_lower h.r2 hb,
  Kd.R_reok (ok := fun k => some k ≠ vr.ownBlock) rfl (Kd.R_lower h.r3 hb) (fun k hk e => by have := Kd.R_base h.r3 k hk; have := hr k e.symm; omega), h.e1, h.e3, h.small, h.few⟩
theorem TR.grown {row : Option Nat} (h : TR W w.heap.size (fun k => some k ≠ vr.ownBlock) t S1 S2 S3) (hg : W.grownBy w2 row) (hr : row = vr.ownBlock) (h2 : ∀ k, vr.ownBlock = some k → ∃ cells, W.heap[k]? = some (.cells cells 3 (0, 0))) : TR w2 w.heap.size (fun k => some k ≠ vr.ownBlock) t S1 S2 S3 := by
 subst hr
 exact ⟨Kd.R_grown h.r1 hg (fun k hk => hk), Kd.R_over' h.r2 h2 (by decide) hg, Kd.R_grown h.r3 hg (fun k hk => hk), h.e1, h.e3, h.small, h.few⟩
theorem TR.over {row : Option Nat} {ok : Nat → Prop} {v : Value} {xs : List S71} {okv : Nat → Prop} (h : TR W w.heap.size ok t S1 S2 S3) (hv : Kd.R k71 71 W w.heap.size okv v xs) (hg : W.grownBy w2 v.ownBlock) : TR w2 w.heap.size ok t S1 S2 S3 :=
 ⟨Kd.R_over h.r1 hv (by decide) hg, Kd.R_over h.r2 hv (by decide) hg, Kd.R_over h.r3 hv (by decide) hg, h.e1, h.e3, h.small, h.few⟩
theorem TR.set {ok : Nat → Prop} {g j : Nat} {u : Value} {cells : Array Value} (h : TR W w.heap.size ok t S1 S2 S3) (hb : W.heap[g]? = some (.cells cells 31 (0, 0))) : TR (W.setCell ⟨g, j, none⟩ u) w.heap.size ok t S1 S2 S3 :=
 ⟨Kd.R_set h.r1 hb (by decide) j u, Kd.R_set h.r2 hb (by decide) j u, Kd.R_set h.r3 hb (by decide) j u, h.e1, h.e3, h.small, h.few⟩
theorem BS.midw (h : BS w W gt gh n Sa Sk S1 S2 S3 vr vw t rk H) (hg : W.grownBy w2 vw.ownBlock) : w2.heap[gh]? = some (.cells #[vr, vw] 31 (0, 0)) := (hg.block gh (blk_lt h.hb) (Kd.R_ne h.rw h.hb (by decide))).trans h.hb
theorem BS.appw {p : S71} (h : BS w W gt gh n Sa Sk S1 S2 S3 vr vw t rk H) (hg : W.grownBy w2 vw.ownBlock) (hR : Kd.R k71 71 w2 w.heap.size (fun _ => True) vw' (H ++ [p])) (hB : Below w.heap.size w w2) :
  BS w (w2.setCell ⟨gh, 1, none⟩ vw') gt gh n Sa Sk S1 S2 S3 vr vw' t rk (H ++ [p]) := by
 have h1 := h.gh1
 have hne := h.ne
 have hm := h.midw hg
 have e1 := (hg.block _ (blk_lt h.gb) (Kd.R_ne h.rw h.gb (by decide))).trans h.gb
 have e2 := (hg.block _ (blk_lt h.zb) (Kd.R_ne h.rw h.zb (by decide))).trans h.zb
 have e3 := (hg.block _ (blk_lt h.tb) (Kd.R_ne h.rw h.tb (by decide))).trans h.tb
 exact ⟨(Below.heap_setCell w2 ⟨gh, 1, none⟩ _ _ (by simp; omega)).trans e1, (Below.heap_setCell w2 ⟨gh, 1, none⟩ _ _ (by simp; omega)).trans e2, (Below.heap_setCell w2 ⟨gh, 1, none⟩ _ _ (by simp; omega)).trans e3, blk_put hm 1 vw' rfl, h.gt1, h.gh1, h.ne,
  hB.setCell (p := ⟨gh, 1, none⟩) (by simp; omega) _, (h.tr.over (row := none) h.rw hg).set hm, Kd.R_set (Kd.R_over h.rr h.rw (by decide) hg) hm (by decide) 1 _, Kd.R_set hR hm (by decide) 1 _, h.tn⟩
theorem BS.midr (h : BS w W gt gh n Sa Sk S1 S2 S3 vr vw t rk H) (hg : W.grownBy w2 vr.ownBlock) : w2.heap[gh]? = some (.cells #[vr, vw] 31 (0, 0)) := (hg.block gh (blk_lt h.hb) (Kd.R_ne h.rr h.hb (by decide))).trans h.hb
theorem BS.rrok (h : BS w W gt gh n Sa Sk S1 S2 S3 vr vw t rk H) : Kd.R (Kd.int .i64) 3 W w.heap.size (fun k => some k ≠ S1.ownBlock ∧ some k ≠ S3.ownBlock) vr rk :=
 Kd.R_reok (ok := fun k => some k ≠ S1.ownBlock ∧ some k ≠ S3.ownBlock) rfl h.rr (fun k hk => ⟨fun e => h.tr.r1.1 k e.symm hk.symm, fun e => h.tr.r3.1 k e.symm hk.symm⟩)
theorem BS.rfresh (h : BS w W gt gh n Sa Sk S1 S2 S3 vr vw t rk H) : ∀ k, W.heap.size ≤ k → some k ≠ S1.ownBlock ∧ some k ≠ S3.ownBlock := fun k hk =>
 ⟨fun e => by have := Kd.R_lt h.tr.r1 k e.symm; omega, fun e => by have := Kd.R_lt h.tr.r3 k e.symm; omega⟩
theorem BS.appr {p : Int} (h : BS w W gt gh n Sa Sk S1 S2 S3 vr vw t rk H) (hg : W.grownBy w2 vr.ownBlock) (hR : Kd.R (Kd.int .i64) 3 w2 w.heap.size (fun k => some k ≠ S1.ownBlock ∧ some k ≠ S3.ownBlock) vr' (rk ++ [p])) (hB : Below w.heap.size w w2) :
  BS w (w2.setCell ⟨gh, 0, none⟩ vr') gt gh n Sa Sk S1 S2 S3 vr' vw t (rk ++ [p]) H := by
 have h1 := h.gh1
 have hne := h.ne
 have hm := h.midr hg
 have e1 := (hg.block _ (blk_lt h.gb) (Kd.R_ne h.rr h.gb (by decide))).trans h.gb
 have e2 := (hg.block _ (blk_lt h.zb) (Kd.R_ne h.rr h.zb (by decide))).trans h.zb
 have e3 := (hg.block _ (blk_lt h.tb) (Kd.R_ne h.rr h.tb (by decide))).trans h.tb
 have t1 := h.tr.grown hg rfl (Kd.R_typed h.rr)
 refine ⟨(Below.heap_setCell w2 ⟨gh, 0, none⟩ _ _ (by simp; omega)).trans e1, (Below.heap_setCell w2 ⟨gh, 0, none⟩ _ _ (by simp; omega)).trans e2, (Below.heap_setCell w2 ⟨gh, 0, none⟩ _ _ (by simp; omega)).trans e3, blk_put hm 0 vr' rfl, h.gt1, h.gh1, h.ne,
  hB.setCell (p := ⟨gh, 0, none⟩) (by simp; omega) _, ?_, Kd.R_set (Kd.R_mono hR (fun _ _ => trivial)) hm (by decide) 0 _, Kd.R_set (Kd.R_over h.rw h.rr (by decide) hg) hm (by decide) 0 _, h.tn⟩
 refine TR.set ⟨Kd.R_reok (ok := fun k => some k ≠ vr'.ownBlock) rfl t1.r1 (fun k hk e => (hR.1 k e.symm).1 hk.symm), t1.r2, Kd.R_reok (ok := fun k => some k ≠ vr'.ownBlock) rfl t1.r3 (fun k hk e => (hR.1 k e.symm).2 hk.symm), t1.e1, t1.e3, t1.small, t1.few⟩ hm
theorem BS.rank {g m c : Nat} (h : BS w W gt gh n Sa Sk S1 S2 S3 (.slice (some ⟨g, 0, none⟩) m c) vw t rk H) (i : Nat) (hi : i < m) (x : Int) : BS w (W.setCell ⟨g, i, none⟩ (.int .i64 x)) gt gh n Sa Sk S1 S2 S3 (.slice (some ⟨g, 0, none⟩) m c) vw t (rk.set i x) H := by
 have hm : rk.length = m := by
  obtain ⟨A, c', e, _, _⟩ := Kd.R_reads h.rr
  cases e
  rfl
 have hp := Kd.R_putn (enc := fun x : Int => .int .i64 x) h.rr (i : Int) x
 rw [Int.toNat_natCast] at hp
 have hg : W.grownBy (W.setCell ⟨g, i, none⟩ (.int .i64 x)) (Value.slice (some ⟨g, 0, none⟩) m c).ownBlock := ⟨rfl, rfl, rfl, by simp [World.setCell], fun k hk hne => Below.heap_setCell W ⟨g, i, none⟩ _ k (fun e => hne (by rw [e]; rfl))⟩
 have e1 := (hg.block _ (blk_lt h.gb) (Kd.R_ne h.rr h.gb (by decide))).trans h.gb
 have e2 := (hg.block _ (blk_lt h.zb) (Kd.R_ne h.rr h.zb (by decide))).trans h.zb
 have e3 := (hg.block _ (blk_lt h.tb) (Kd.R_ne h.rr h.tb (by decide))).trans h.tb
 have hgb : w.heap.size ≤ g := Kd.R_base h.rr g rfl
 exact ⟨e1, e2, e3, (hg.block gh (blk_lt h.hb) (Kd.R_ne h.rr h.hb (by decide))).trans h.hb, h.gt1, h.gh1, h.ne, h.bel.setCell (p := ⟨g, i, none⟩) hgb _, h.tr.grown hg rfl (Kd.R_typed h.rr), hp, Kd.R_over h.rw h.rr (by decide) hg, h.tn⟩
end
end Go.Proofs.YtfkejflmhidnaaaGreat.PAll
namespace Go.Proofs.YtfkejflmhidnaaaGreat.PAll
open RowKit YtfkejflmhidnaaaGreatW.PrintWords YtfkejflmhidnaaaGreatW.PrintLast YtfkejflmhidnaaaGreatW.PrintMore
open Hp hiding Good
def NewPost (w : World) (t0 : TP) (r : Ending) (w' : World) : Prop := ∃ S1 S2 S3, r = .returned (.agg #[.int .i64 t0.n, S1, S2, S3]) ∧ TR w' w.heap.size (fun _ => True) t0 S1 S2 S3 ∧ Below w.heap.size w w'
structure GoodB (n : Nat) (t : TP) (rk : List Int) (H : List S71) : Prop where
 left : placesP t ≠ []
 nn : t.n = n
 rl : rk.length = n
 ok : ∃ wm : Int, 0 ≤ wm ∧ wm ≤ 562949953421312 ∧ TOk n wm t
 ll : t.l.length ≤ 400000
 hl : H.length ≤ 400000
 n9 : n ≤ 500
def BuildPost (w : World) (n : Nat) (I : Nat → TP → List Int → List S71 → Prop) (r : Ending) (w' : World) : Prop := ∃ vr vw t rk H, r = .returned (.agg #[vr, vw]) ∧ I n t rk H ∧ Kd.R (Kd.int .i64) 3 w' w.heap.size (fun _ => True) vr rk ∧ Kd.R k71 71 w' w.heap.size (fun _ => True) vw H ∧ Below w.heap.size w w'
theorem TV.outsR {w : World} {t : TP} {S1 S2 S3 : Value} (h : TV w t S1 S2 S3) (v : Int) : Calls Tryz.prog 80 #[.agg #[.int .i64 t.n, S1, S2, S3], .int .i64 v] w fun r w' => ∃ vr, r = .returned vr ∧ Kd.R (Kd.int .i64) 3 w' w.heap.size (fun _ => True) vr (rowB t.n fun x => (wayP t.l v x).isSome) ∧ Below w.heap.size w w' := by
 obtain ⟨p, h1, rfl, rfl, rfl⟩ := h; exact outs_walk w t p h1 v
theorem TV.insR {w : World} {t : TP} {S1 S2 S3 : Value} (h : TV w t S1 S2 S3) (v : Int) : Calls Tryz.prog 82 #[.agg #[.int .i64 t.n, S1, S2, S3], .int .i64 v] w fun r w' => ∃ vr, r = .returned vr ∧ Kd.R (Kd.int .i64) 3 w' w.heap.size (fun _ => True) vr (rowB t.n fun x => (wayP t.l x v).isSome) ∧ Below w.heap.size w w' := by
 obtain ⟨p, h1, rfl, rfl, rfl⟩ := h; exact ins_walk w t p h1 v
theorem putsT_take (t : TP) : ∀ (L : List S71) (j : Nat), j < L.length → putsT t (L.take (j + 1)) = putT (putsT t (L.take j)) (rd_T71 L (j : Int)).f0 (rd_T71 L (j : Int)).f1 (rd_T71 L (j : Int)).f2.f0 (rd_T71 L (j : Int)).f2.f1 := fun L j hj => by
 have app : ∀ (K : List S71) (s : S71) (t : TP), putsT t (K ++ [s]) = putT (putsT t K) s.f0 s.f1 s.f2.f0 s.f2.f1 := fun K => by
  induction K with
  | nil => intro s t; rfl
  | cons a K ih => intro s t; exact ih s _
 have e : rd_T71 L (j : Int) = L[j] := by simp [rd_T71, List.getD, hj]
 rw [List.take_succ_eq_append_getElem hj, app, e]
theorem map_take {α β : Type} (f : α → β) (l : List α) (j : Nat) (hj : j < l.length) : (l.map f).take (j + 1) = (l.map f).take j ++ [f l[j]] := by
 rw [List.take_succ_eq_append_getElem (by simpa using hj)]
 simp
theorem outW_take {t : TP} {v : Int} (j : Nat) (hj : j < (rowB t.n fun x => (wayP t.l v x).isSome).length) : ∃ x : S69, wayP t.l v (rd (rowB t.n fun x => (wayP t.l v x).isSome) (j : Int)) = some x ∧ (outW t v).take (j + 1) = (outW t v).take j ++ [⟨v, rd (rowB t.n fun x => (wayP t.l v x).isSome) (j : Int), x⟩] := by
 have hm : rd (rowB t.n fun x => (wayP t.l v x).isSome) (j : Int) ∈ rowB t.n fun x => (wayP t.l v x).isSome := by rw [rd_get hj]; exact List.getElem_mem _
 obtain ⟨x, hx⟩ := Option.isSome_iff_exists.1 (rowB_mem.1 hm).2.2
 refine ⟨x, hx, ?_⟩
 unfold outW
 rw [map_take _ _ j hj, ← rd_get hj, hx]
 rfl
theorem inW_take {t : TP} {v : Int} (j : Nat) (hj : j < (rowB t.n fun x => (wayP t.l x v).isSome).length) : ∃ x : S69, wayP t.l (rd (rowB t.n fun x => (wayP t.l x v).isSome) (j : Int)) v = some x ∧ (inW t v).take (j + 1) = (inW t v).take j ++ [⟨rd (rowB t.n fun x => (wayP t.l x v).isSome) (j : Int), v, x⟩] := by
 have hm : rd (rowB t.n fun x => (wayP t.l x v).isSome) (j : Int) ∈ rowB t.n fun x => (wayP t.l x v).isSome := by rw [rd_get hj]; exact List.getElem_mem _
 obtain ⟨x, hx⟩ := Option.isSome_iff_exists.1 (rowB_mem.1 hm).2.2
 refine ⟨x, hx, ?_⟩
 unfold inW
 rw [map_take _ _ j hj, ← rd_get hj, hx]
 rfl
theorem BS.put {w wr : World} {gt gh n : Nat} {Sa Sk S1 S2 S3 vr vw : Value} {t : TP} {rk : List Int} {H : List S71} (h : BS w wr gt gh n Sa Sk S1 S2 S3 vr vw t rk H) (hf : t.l.length < 1000000) (a b x m : Int) {W : World} (g : Below wr.heap.size wr W) :
  Calls Tryz.prog 79 #[.agg #[.int .i64 n, S1, S2, S3], .int .i64 a, .int .i64 b, .int .i64 x, .int .i64 m] W fun r w' => ∃ A l c bq, r = .returned (.tuple #[.agg #[.int .i64 n, S1, .slice A l c, S3], .bool bq]) ∧ Kd.R k156 156 w' w.heap.size (fun _ => True) (.slice A l c) (putT t a b x m).l ∧ Below W.heap.size W w' := by
 have hw : w.heap.size ≤ W.heap.size := Nat.le_trans h.bel.size g.size
 have htn := h.tn
 subst htn
 refine ((h.tr.below g).tv.put hf a b x m).mono ?_
 rintro e w' ⟨S2', bq, rfl, hq, _, gw⟩
 have hR : Kd.R k156 156 w' w.heap.size (fun _ => True) S2' (putT t a b x m).l := by
  rcases hq with ⟨e1, e2⟩ | hq
  ·rw [e1, e2]; exact Kd.R_below (h.tr.below g).r2 gw
  ·exact Kd.R_lower hq hw
 obtain ⟨A, c, e⟩ := Kd.R_slice hR
 rw [(putT_is t a b x m).1]
 rw [e] at hR ⊢
 exact ⟨A, _, c, bq, rfl, hR, gw⟩
set_option maxRecDepth 100000 in
set_option maxHeartbeats 8000000 in
theorem build_walk (w : World) (n : Nat) (Sa Sk : Value) (t0 : TP) (hnew : ∀ W, Below w.heap.size w W → Calls Tryz.prog 76 #[.agg #[.int .i64 n, Sa, Sk]] W fun r w' => NewPost W t0 r w') (hn0 : t0.n = n) (hn9 : n ≤ 500) (hsa : ∃ A l c, Sa = .slice A l c) (hsk : ∃ A l c, Sk = .slice A l c)
  (I : Nat → TP → List Int → List S71 → Prop) (h0 : I 0 t0 (List.replicate n 0) []) (hI : ∀ r t rk H, I r t rk H → r < n → GoodB n t rk H)
  (hS : ∀ r t rk H (v : Nat) L t', I r t rk H → r < n → isP t (v : Int) = true → NeedOk n t (v : Int) L → TakeOk (putsT t L) (v : Int) t' → I (r + 1) t' (rk.set v (r : Int)) (H ++ outW (putsT t L) (v : Int) ++ inW (putsT t L) (v : Int))) :
  Calls Tryz.prog 35 #[.agg #[.int .i64 n, Sa, Sk]] w fun r w' => BuildPost w n I r w' := by
 have HNEW := Lib.hid hnew
 have HI0 := Lib.hid h0
 have HI := Lib.hid hI
 have HS := Lib.hid hS
 have HN0 := Lib.hid hn0
 obtain ⟨Aa, la0, ca0, rfl⟩ := hsa
 obtain ⟨Ak, lk0, ck0, rfl⟩ := hsk
 generalize hSa : Value.slice Aa la0 ca0 = Sa at *
 generalize hSk : Value.slice Ak lk0 ck0 = Sk at *
 clear hnew h0 hI hS hn0
 have HGB := Lib.hid (blk_new w (.cells #[.int .i64 n, Sa, Sk] 77))
 have HGB2 : Hid (((w.alloc (.cells #[.int .i64 n, Sa, Sk] 77)).alloc (.cells #[.slice none 0 0, .slice none 0 0] 31)).heap[w.heap.size]? = some (.cells #[.int .i64 n, Sa, Sk] 77 (0, 0))) := Lib.hid (blk_alloc HGB.out _)
 have HZB : Hid (((w.alloc (.cells #[.int .i64 n, Sa, Sk] 77)).alloc (.cells #[.slice none 0 0, .slice none 0 0] 31)).heap[w.heap.size + 1]? = some (.cells #[.slice none 0 0, .slice none 0 0] 31 (0, 0))) := Lib.hid (by have := blk_new (w.alloc (.cells #[.int .i64 n, Sa, Sk] 77)) (.cells #[.slice none 0 0, .slice none 0 0] 31); rw [World.size_alloc] at this; exact this)
 have HG0 : Hid (Below w.heap.size w ((w.alloc (.cells #[.int .i64 n, Sa, Sk] 77)).alloc (.cells #[.slice none 0 0, .slice none 0 0] 31))) := Lib.hid (((Below.refl _ _).alloc (Nat.le_refl _) _).alloc (by simp) _)
 have HSZ : Hid (w.heap.size + 2 ≤ ((w.alloc (.cells #[.int .i64 n, Sa, Sk] 77)).alloc (.cells #[.slice none 0 0, .slice none 0 0] 31)).heap.size) := Lib.hid (by simp)
 have a0 := (blk_cell HGB2.out 0).trans rfl
 have a1 := (blk_cell HGB2.out 1).trans rfl
 have a2 := (blk_cell HGB2.out 2).trans rfl
 go_enter Tryz.func35, Tryz.ntmps35
 go_upto_region 1 with fail
 generalize (w.alloc (.cells #[.int .i64 n, Sa, Sk] 77)).alloc (.cells #[.slice none 0 0, .slice none 0 0] 31) = W1 at *
 go_upto_region 2 with (first | (go_at_call 76; refine (HNEW.out W1 HG0.out).mono ?_; rintro e W2 ⟨S1, S2, S3, rfl, hTR, g2⟩; obtain ⟨B1, p1, hs1⟩ := Kd.R_slice hTR.r1; obtain ⟨B2, p2, hs2⟩ := Kd.R_slice hTR.r2; obtain ⟨B3, p3, hs3⟩ := Kd.R_slice hTR.r3; generalize t0.inn.length = q1 at hs1; generalize t0.l.length = q2 at hs2; generalize t0.lost.length = q3 at hs3; subst hs1 hs2 hs3; rw [HN0.out]; have HTR := Lib.hid hTR; have HG2 := Lib.hid g2; clear hTR g2))
 go_upto_region 3 with fail
 have HBS : Hid (BS w ((W2.alloc (.cells #[.int .i64 n, .slice B1 q1 p1, .slice B2 q2 p2, .slice B3 q3 p3] 121)).alloc (.cells #[.slice none 0 0, .slice none 0 0] 31)) W2.heap.size (W2.heap.size + 1) n Sa Sk (.slice B1 q1 p1) (.slice B2 q2 p2) (.slice B3 q3 p3) (.slice none 0 0) (.slice none 0 0) t0 [] []) := Lib.hid (by
  have hs := HSZ.out
  have hs2 := HG2.out.size
  have g1 := HG0.out.trans (HG2.out.mono HG0.out.size)
  have g3 : Below W2.heap.size W2 ((W2.alloc (.cells #[.int .i64 n, .slice B1 q1 p1, .slice B2 q2 p2, .slice B3 q3 p3] 121)).alloc (.cells #[.slice none 0 0, .slice none 0 0] 31)) := ((Below.refl _ _).alloc (Nat.le_refl _) _).alloc (by simp) _
  have e1 := (HG2.out.block _ (blk_lt HGB2.out)).trans HGB2.out
  have e2 := (HG2.out.block _ (blk_lt HZB.out)).trans HZB.out
  have hb := blk_new (W2.alloc (.cells #[.int .i64 n, .slice B1 q1 p1, .slice B2 q2 p2, .slice B3 q3 p3] 121)) (.cells #[.slice none 0 0, .slice none 0 0] 31)
  rw [World.size_alloc] at hb
  exact ⟨(g3.block _ (blk_lt e1)).trans e1, (g3.block _ (blk_lt e2)).trans e2, blk_alloc (blk_new W2 _) _, hb, by omega, by omega, by omega, g1.trans (g3.mono g1.size), (TR.fresh HTR.out (fun k hk => by cases hk) HG0.out.size).below g3, Kd.R_nil _ _ _ _ _, Kd.R_nil _ _ _ _ _, HN0.out⟩)
 clear a0 a1 a2 HGB2 HZB HG0 HSZ HTR HG2 HGB
 generalize (W2.alloc (.cells #[.int .i64 n, .slice B1 q1 p1, .slice B2 q2 p2, .slice B3 q3 p3] 121)).alloc (.cells #[.slice none 0 0, .slice none 0 0] 31) = W3 at *
 generalize W2.heap.size + 1 = gh at *
 generalize W2.heap.size = gt at *
 go_wp2_with fail
 go_loopw [5] (fun v5 wr => ∃ (i : Nat) (vr : Value), v5 = .int .i64 i ∧ i ≤ n ∧ Hid (BS w wr gt gh n Sa Sk (.slice B1 q1 p1) (.slice B2 q2 p2) (.slice B3 q3 p3) vr (.slice none 0 0) t0 (List.replicate i 0) [])) (fun v5 _ => n - (intOf v5).toNat)
 case atStart => exact ⟨0, _, rfl, by omega, HBS⟩
 case round =>
  obtain ⟨i, vr, rfl, hi, HB⟩ := hrel
  clear HBS
  have a0 : wr.cell? ⟨w.heap.size, 0, none⟩ = some (.int .i64 n) := (blk_cell HB.out.gb 0).trans rfl
  by_cases hlt : i < n
  ·have hi0 : (0 : Int) ≤ (i : Int) := Int.natCast_nonneg _
   have hi1 : (i : Int) < (n : Int) := by omega
   have b0 : wr.cell? ⟨gh, 0, none⟩ = some vr := (blk_cell HB.out.hb 0).trans rfl
   have hll : (List.replicate i (0 : Int)).length ≤ 500 := by rw [List.length_replicate]; omega
   go_wp2_with (at_builtin; refine Kd.R_append (Kd.int .i64) (w0 := w) w.heap.size rfl (.tmp 33) (.tmp 34) 28 3 (.int .i64 0) 8 rfl Tryz.underlying28 info3 rfl (by decide) (by omega) _ (List.replicate i (0 : Int)) 0 [.int .i64 0] (fun k => some k ≠ (Value.slice B1 q1 p1).ownBlock ∧ some k ≠ (Value.slice B3 q3 p3).ownBlock) (fun _ => False) rfl rfl rfl (fun _ h => h.elim) HB.out.rfresh HB.out.rrok HB.out.bel HB.out.bel.size (by omega) ?_; intro vr' w7 hR hB hg _; obtain ⟨A9, c9, hv9⟩ := Kd.R_slice hR; generalize (List.replicate i (0 : Int) ++ [0]).length = m9 at hv9; subst hv9; have HB2 := Lib.hid (BS.appr HB.out hg hR hB); have hm := BS.midr HB.out hg; clear b0; have d0 := (blk_cell hm 0).trans rfl; have dl := blk_lt hm; have df : ∀ j, w7.frozen? ⟨gh, j, none⟩ = false := fun j => blk_frozen hm j; clear hR hB hg hm)
   go_roundw
   case measure => simp [intOf]; omega
   case rel => exact ⟨i + 1, _, by go_num, by omega, Lib.hid (by rw [List.replicate_succ']; exact HB2.out)⟩
  ·have HIN : Hid (i = n) := Lib.hid (by omega)
   have hil : n ≤ i := by omega
   rw [HIN.out] at HB
   have HIZ : Hid (I 0 t0 (List.replicate n 0) []) := HI0
   go_wp2_with fail
   go_loopw [6] (fun v6 wq => ∃ (r : Nat) (S1 S2 S3 vr vw : Value) (t : TP) (rk : List Int) (H : List S71), v6 = .int .i64 r ∧ r ≤ n ∧ Hid (BS w wq gt gh n Sa Sk S1 S2 S3 vr vw t rk H) ∧ Hid (I r t rk H)) (fun v6 _ => n - (intOf v6).toNat)
   case atStart => exact ⟨0, _, _, _, _, _, _, _, _, rfl, by omega, HB, HIZ⟩
   case round =>
    obtain ⟨r, S1, S2, S3, vr, vw, t, rk, H, rfl, hr, HBq, HIr⟩ := hrel
    clear HB a0 HIZ HI0
    have a0 : wr.cell? ⟨w.heap.size, 0, none⟩ = some (.int .i64 n) := (blk_cell HBq.out.gb 0).trans rfl
    by_cases hrn : r < n
    ·have hr0 : (0 : Int) ≤ (r : Int) := Int.natCast_nonneg _
     have hr1 : (r : Int) < (n : Int) := by omega
     have HGD := Lib.hid (HI.out r t rk H HIr.out hrn)
     obtain ⟨c0, c1, c2, c3, l0⟩ := HBq.out.tb.cells
     have hht : t.n = n := HGD.out.nn
     go_upto_region 11 with (first | (go_at_call 77; rw [← hht]; refine (HBq.out.tr.tv.next).mono ?_; rintro e W4 ⟨b, rfl, hb, g4⟩; have HBI := Lib.hid hb; have HG4 := Lib.hid g4; clear hb g4))
     have hiv : isP t b = true := by
      rcases HBI.out with h | ⟨_, h⟩
      ·exact h
      ·exact absurd h HGD.out.left
     obtain ⟨v, rfl⟩ := Int.eq_ofNat_of_zero_le (isP_in hiv).1
     have hvn : v < n := by have := (isP_in hiv).2; omega
     have HV := Lib.hid hiv
     have HB4 := Lib.hid (HBq.out.below HG4.out)
     clear c0 c1 c2 c3 l0 a0 HG4 HBI hiv HBq
     obtain ⟨g, c, hvr, _, _, _⟩ := Kd.R_form HB4.out.rr (by rw [HGD.out.rl]; omega)
     rw [HGD.out.rl] at hvr
     subst hvr
     have b0 : W4.cell? ⟨gh, 0, none⟩ = some (.slice (some ⟨g, 0, none⟩) n c) := (blk_cell HB4.out.hb 0).trans rfl
     obtain ⟨e0, ef⟩ := Kd.R_celln (0 : Int) HB4.out.rr (v : Int) (by omega) (by omega)
     rw [Int.toNat_natCast] at e0 ef
     have hv0 : (0 : Int) ≤ (v : Int) := Int.natCast_nonneg _
     have hv1 : (v : Int) < (n : Int) := by omega
     have lg := World.block_lt_of_cell? _ _ e0
     simp only at lg
     go_upto_region 12 with fail
     have HB5 := Lib.hid (HB4.out.rank v hvn (r : Int))
     clear b0 e0 ef lg HB4
     generalize W4.setCell ⟨g, v, none⟩ (.int .i64 r) = W5 at *
     obtain ⟨c0, c1, c2, c3, l0⟩ := HB5.out.tb.cells
     obtain ⟨wm, hwm0, hwm1, hok⟩ := HGD.out.ok
     have HOK := Lib.hid hok
     clear hok
     go_upto_region 13 with (first | (go_at_call 78; rw [← hht]; refine (HB5.out.tr.tv.needed n wm HOK.out hwm0 (by omega) (v : Int)).mono ?_; rintro e W6 ⟨A, c', L, rfl, hc', hL, hN, g6⟩; have HL := Lib.hid (Kd.R_lower hL HB5.out.bel.size); have HN := Lib.hid hN; have HB6 := Lib.hid (HB5.out.below g6); clear hL hN g6))
     clear c0 c1 c2 c3 l0 HB5
     have HLL := Lib.hid HN.out.len
     obtain ⟨X1, x1, hS1⟩ := Kd.R_slice HB6.out.tr.r1
     obtain ⟨X2, x2, hS2⟩ := Kd.R_slice HB6.out.tr.r2
     obtain ⟨X3, x3, hS3⟩ := Kd.R_slice HB6.out.tr.r3
     generalize t.inn.length = y1 at hS1
     generalize t.l.length = y2 at hS2
     generalize t.lost.length = y3 at hS3
     subst hS1 hS2 hS3
     obtain ⟨m, hm⟩ : ∃ m, L.length = m := ⟨_, rfl⟩
     have HM := Lib.hid hm
     rw [hm] at HL HLL hc'
     have hmm : m ≤ 250000 := by
      have := HLL.out
      have := Nat.mul_le_mul hn9 hn9
      omega
     rw [hm]
     clear hm
     have HB7 : Hid (BS w W6 gt gh n Sa Sk (.slice X1 y1 x1) (.slice X2 y2 x2) (.slice X3 y3 x3) (.slice (some ⟨g, 0, none⟩) n c) vw (putsT t (L.take 0)) (rk.set v (r : Int)) H) := HB6
     go_wp2_with fail
     go_loopw [9] (fun v9 wq => ∃ (j : Nat) (X2 : Option Addr) (y2 x2 : Nat), v9 = .int .i64 j ∧ j ≤ m ∧ Hid (BS w wq gt gh n Sa Sk (.slice X1 y1 x1) (.slice X2 y2 x2) (.slice X3 y3 x3) (.slice (some ⟨g, 0, none⟩) n c) vw (putsT t (L.take j)) (rk.set v (r : Int)) H) ∧ Hid (Kd.R k71 71 wq w.heap.size (fun _ => True) (.slice A m c') L)) (fun v9 _ => m - (intOf v9).toNat)
     case atStart => exact ⟨0, _, _, _, rfl, by omega, HB7, HL⟩
     case round =>
      obtain ⟨j, X2, y2, x2, rfl, hj, HB, HLj⟩ := hrel
      clear HB6 HB7 HL
      by_cases hjm : j < m
      ·have hj0 : (0 : Int) ≤ (j : Int) := Int.natCast_nonneg _
       have hj1 : (j : Int) < (m : Int) := by omega
       have hpl : (putsT t (L.take j)).l.length < 1000000 := by
        have h1 := (putsT_is (L.take j) t).2.2
        have h2 : (L.take j).length ≤ j := by rw [List.length_take]; omega
        have h3 := HGD.out.ll
        omega
       have HTK := Lib.hid (putsT_take t L j (by rw [HM.out]; exact hjm))
       obtain ⟨hLn, hLc, hLC⟩ := Kd.R_reads' HLj.out
       obtain ⟨ad, hA, _⟩ := at_T71 hLC (j : Int) (by omega) (by omega)
       subst hA
       have HCF : Hid (∀ W, Below wr.heap.size wr W → W.cell? ⟨gt, 0, none⟩ = some (.int .i64 n) ∧ W.cell? ⟨gt, 1, none⟩ = some (.slice X1 y1 x1) ∧ W.cell? ⟨gt, 2, none⟩ = some (.slice X2 y2 x2) ∧ W.cell? ⟨gt, 3, none⟩ = some (.slice X3 y3 x3) ∧ W.cell? (ad.add (j * 5)) = some (.int .i64 (rd_T71 L (j : Int)).f0) ∧ W.cell? ⟨(ad.add (j * 5)).block, (ad.add (j * 5)).off + 1, none⟩ = some (.int .i64 (rd_T71 L (j : Int)).f1) ∧ W.cell? ⟨(ad.add (j * 5)).block, (ad.add (j * 5)).off + 2, none⟩ = some (.int .i64 (rd_T71 L (j : Int)).f2.f0) ∧ W.cell? ⟨(ad.add (j * 5)).block, (ad.add (j * 5)).off + 3, none⟩ = some (.int .i64 (rd_T71 L (j : Int)).f2.f1)) := Lib.hid (fun W gg => by
        obtain ⟨k0, k1, k2, k3, _⟩ := (HB.out.tb.below gg).cells
        obtain ⟨ad', hA, r0, r1, r2, r3, _⟩ := at_T71 (Kd.C_below hLC gg) (j : Int) (by omega) (by omega)
        cases hA
        simp only [Int.toNat_natCast] at r0 r1 r2 r3
        exact ⟨k0, k1, k2, k3, r0, r1, r2, r3⟩)
       have HPJ : Hid (∀ W, Below wr.heap.size wr W → Calls Tryz.prog 79 #[.agg #[.int .i64 n, .slice X1 y1 x1, .slice X2 y2 x2, .slice X3 y3 x3], .int .i64 (rd_T71 L (j : Int)).f0, .int .i64 (rd_T71 L (j : Int)).f1, .int .i64 (rd_T71 L (j : Int)).f2.f0, .int .i64 (rd_T71 L (j : Int)).f2.f1] W fun r w' => ∃ A l c bq, r = .returned (.tuple #[.agg #[.int .i64 n, .slice X1 y1 x1, .slice A l c, .slice X3 y3 x3], .bool bq]) ∧ Kd.R k156 156 w' w.heap.size (fun _ => True) (.slice A l c) (putsT t (L.take (j + 1))).l ∧ Below W.heap.size W w') := Lib.hid (fun W gg => by
        rw [HTK.out]
        exact HB.out.put hpl _ _ _ _ gg)
       have HTN : Hid ((putsT t (L.take (j + 1))).n = n ∧ (putsT t (L.take (j + 1))).inn = (putsT t (L.take j)).inn ∧ (putsT t (L.take (j + 1))).lost = (putsT t (L.take j)).lost ∧ (putsT t (L.take (j + 1))).l.length ≤ 1000000) := Lib.hid (by
        rw [HTK.out]
        obtain ⟨k1, k2, k3⟩ := putT_is (putsT t (L.take j)) (rd_T71 L (j : Int)).f0 (rd_T71 L (j : Int)).f1 (rd_T71 L (j : Int)).f2.f0 (rd_T71 L (j : Int)).f2.f1
        have k4 := putT_len (putsT t (L.take j)) (rd_T71 L (j : Int)).f0 (rd_T71 L (j : Int)).f1 (rd_T71 L (j : Int)).f2.f0 (rd_T71 L (j : Int)).f2.f1
        exact ⟨k1.trans HB.out.tn, k2, k3, by omega⟩)
       obtain ⟨tj', htj'⟩ : ∃ x, putsT t (L.take (j + 1)) = x := ⟨_, rfl⟩
       have HTJ := Lib.hid htj'
       rw [htj'] at HPJ HTN
       clear htj'
       generalize putsT t (L.take j) = tj at *
       generalize rd_T71 L (j : Int) = e at *
       obtain ⟨s0, s1, ⟨s2, s3, s4⟩⟩ := e
       simp only at HCF HPJ
       clear hLC HTK
       go_upto_region 16 with fail
       refine start_ (n := 30) (S := fun w' => w'.cell? ⟨gt, 0, none⟩ = some (.int .i64 n) ∧ w'.cell? ⟨gt, 1, none⟩ = some (.slice X1 y1 x1) ∧ w'.cell? ⟨gt, 2, none⟩ = some (.slice X2 y2 x2) ∧ w'.cell? ⟨gt, 3, none⟩ = some (.slice X3 y3 x3) ∧ w'.cell? (ad.add (j * 5)) = some (.int .i64 s0) ∧ w'.cell? ⟨(ad.add (j * 5)).block, (ad.add (j * 5)).off + 1, none⟩ = some (.int .i64 s1) ∧ w'.cell? ⟨(ad.add (j * 5)).block, (ad.add (j * 5)).off + 2, none⟩ = some (.int .i64 s2) ∧ w'.cell? ⟨(ad.add (j * 5)).block, (ad.add (j * 5)).off + 3, none⟩ = some (.int .i64 s3)) (ds := [28]) (bA_ 30 0) (by kernel_rfl) rfl rfl ⟨(HCF.out _ (Below.refl _ _).drew).1, (HCF.out _ (Below.refl _ _).drew).2.1, (HCF.out _ (Below.refl _ _).drew).2.2.1, (HCF.out _ (Below.refl _ _).drew).2.2.2.1, (HCF.out _ (Below.refl _ _).drew).2.2.2.2.1, (HCF.out _ (Below.refl _ _).drew).2.2.2.2.2.1, (HCF.out _ (Below.refl _ _).drew).2.2.2.2.2.2.1, (HCF.out _ (Below.refl _ _).drew).2.2.2.2.2.2.2⟩ (fun hHeld => ?_)
       refine p2_ 1 62 (bA_ 30 2) ?_
       refine p2_ 2 63 (bA_ 30 6) ?_
       refine p2_ 3 64 (bA_ 30 14) ?_
       refine p2_ 4 65 (bA_ 30 30) ?_
       refine p2_ 6 67 (bA_ 30 94) ?_
       refine p2_ 7 68 (bA_ 30 222) ?_
       refine p2_ 8 69 (bA_ 30 478) ?_
       refine p2_ 9 70 (bA_ 30 990) ?_
       refine p2_ 11 72 (bA_ 30 3038) ?_
       refine p2_ 12 73 (bA_ 30 7134) ?_
       refine p2_ 13 74 (bA_ 30 15326) ?_
       refine p2_ 14 75 (bA_ 30 31710) ?_
       refine p2_ 15 76 (bA_ 30 64478) ?_
       refine p2_ 17 78 (bA_ 30 195550) ?_
       refine p2_ 18 79 (bA_ 30 457694) ?_
       refine p2_ 19 80 (bA_ 30 981982) ?_
       refine p2_ 20 81 (bA_ 30 2030558) ?_
       refine p2_ 21 82 (bA_ 30 4127710) ?_
       refine t2_ 0 61 (bA_ 30 4127711) hHeld ?_ (hy := by rintro w' ⟨s0, s1, s2, s3, s4, s5, s6, s7⟩; go_simp; with_reducible rfl)
       refine t2_ 5 66 (bA_ 30 4127743) hHeld ?_ (hy := by rintro w' ⟨s0, s1, s2, s3, s4, s5, s6, s7⟩; go_simp; with_reducible rfl)
       refine t2_ 10 71 (bA_ 30 4128767) hHeld ?_ (hy := by rintro w' ⟨s0, s1, s2, s3, s4, s5, s6, s7⟩; go_simp; with_reducible rfl)
       refine t2_ 16 77 (bA_ 30 4194303) hHeld ?_ (hy := by rintro w' ⟨s0, s1, s2, s3, s4, s5, s6, s7⟩; go_simp; with_reducible rfl)
       refine t2_ 22 83 (bA_ 30 8388607) hHeld ?_ (hy := by rintro w' ⟨s0, s1, s2, s3, s4, s5, s6, s7⟩; go_simp; with_reducible rfl)
       refine join_ (σ := Option Addr × Nat × Nat × Bool × Nat) 2 (bA_ 30 268435455) (fun s => [(84, .tuple #[.agg #[.int .i64 n, .slice X1 y1 x1, .slice s.1 s.2.1 s.2.2.1, .slice X3 y3 x3], .bool s.2.2.2.1]), (60, .tuple #[.agg #[.int .i64 n, .slice X1 y1 x1, .slice s.1 s.2.1 s.2.2.1, .slice X3 y3 x3], .bool s.2.2.2.1]), (85, .agg #[.int .i64 n, .slice X1 y1 x1, .slice s.1 s.2.1 s.2.2.1, .slice X3 y3 x3]), (86, .bool s.2.2.2.1), (10, .pointer (some ⟨s.2.2.2.2, 0, none⟩))]) (fun s w' => ZB w' s.2.2.2.2 ∧ Kd.R k156 156 w' w.heap.size (fun _ => True) (.slice s.1 s.2.1 s.2.2.1) tj'.l ∧ Below wr.heap.size wr w' ∧ wr.heap.size ≤ s.2.2.2.2) ?_ ?_
       rotate_left
       ·intro hCont
        refine two_ (i := 23) (j := 27) (Ni := some 84) (Nj := some 10) (bA_ 30 16777215) (bA_ 30 142606335) rfl rfl rfl rfl (by kernel_rfl) (by decide) (by decide) (fun K hK => ?_) (fun K hK => ?_)
        ·skip
         refine g2_ Tryz.func79 #[.agg #[.int .i64 n, .slice X1 y1 x1, .slice X2 y2 x2, .slice X3 y3 x3], .int .i64 s0, .int .i64 s1, .int .i64 s2, .int .i64 s3] ?_
         with_reducible refine (HPJ.out _ ((Below.refl _ _).drew)).mono ?_
         rintro e w3 ⟨A3, l3, k3, b3, rfl, hY3, g3⟩
         refine ⟨_, rfl, ?_⟩
         refine hK.out _ _ ⟨(HCF.out _ ((Below.refl _ _).drew.trans g3)).1, (HCF.out _ ((Below.refl _ _).drew.trans g3)).2.1, (HCF.out _ ((Below.refl _ _).drew.trans g3)).2.2.1, (HCF.out _ ((Below.refl _ _).drew.trans g3)).2.2.2.1, (HCF.out _ ((Below.refl _ _).drew.trans g3)).2.2.2.2.1, (HCF.out _ ((Below.refl _ _).drew.trans g3)).2.2.2.2.2.1, (HCF.out _ ((Below.refl _ _).drew.trans g3)).2.2.2.2.2.2.1, (HCF.out _ ((Below.refl _ _).drew.trans g3)).2.2.2.2.2.2.2⟩ (fun hHeld => ?_)
         clear hK K
         refine n2_ 84 ?_
         refine p2_ 24 60 (bA_ 30 33554431) ?_
         refine p2_ 25 85 (bA_ 30 67108863) ?_
         refine p2_ 26 86 (bA_ 30 134217727) ?_
         refine o2_ 27 10 (bA_ 30 268435455) (fun K hK => ?_)
         refine value_ (w1 := ?_) (v := ?_) (by rfl) rfl ?_ ?_
         rotate_left 2
         ·go_simp
          constructor
          ·rfl
          ·rfl
         refine hK.out _ _ ⟨(HCF.out _ (((Below.refl _ _).drew.trans g3).alloc g3.size _)).1, (HCF.out _ (((Below.refl _ _).drew.trans g3).alloc g3.size _)).2.1, (HCF.out _ (((Below.refl _ _).drew.trans g3).alloc g3.size _)).2.2.1, (HCF.out _ (((Below.refl _ _).drew.trans g3).alloc g3.size _)).2.2.2.1, (HCF.out _ (((Below.refl _ _).drew.trans g3).alloc g3.size _)).2.2.2.2.1, (HCF.out _ (((Below.refl _ _).drew.trans g3).alloc g3.size _)).2.2.2.2.2.1, (HCF.out _ (((Below.refl _ _).drew.trans g3).alloc g3.size _)).2.2.2.2.2.2.1, (HCF.out _ (((Below.refl _ _).drew.trans g3).alloc g3.size _)).2.2.2.2.2.2.2⟩ (fun hHeld => ?_)
         clear hK K
         refine n2_ 10 ?_
         exact norm_ (by simp only [putAll, Act.put, List.setIfInBounds_toArray, List.set_cons_zero, List.set_cons_succ]) (hCont (A3, l3, k3, b3, w3.heap.size) _ ⟨blk_new w3 _, Kd.R_alloc hY3 _, (((Below.refl _ _).drew.trans g3).alloc g3.size _), g3.size⟩)
        ·skip
         refine value_ (w1 := ?_) (v := ?_) (by rfl) rfl ?_ ?_
         rotate_left 2
         ·go_simp
          constructor
          ·rfl
          ·rfl
         refine hK.out _ _ ⟨(HCF.out _ (((Below.refl _ _).alloc (Nat.le_refl _) _).drew)).1, (HCF.out _ (((Below.refl _ _).alloc (Nat.le_refl _) _).drew)).2.1, (HCF.out _ (((Below.refl _ _).alloc (Nat.le_refl _) _).drew)).2.2.1, (HCF.out _ (((Below.refl _ _).alloc (Nat.le_refl _) _).drew)).2.2.2.1, (HCF.out _ (((Below.refl _ _).alloc (Nat.le_refl _) _).drew)).2.2.2.2.1, (HCF.out _ (((Below.refl _ _).alloc (Nat.le_refl _) _).drew)).2.2.2.2.2.1, (HCF.out _ (((Below.refl _ _).alloc (Nat.le_refl _) _).drew)).2.2.2.2.2.2.1, (HCF.out _ (((Below.refl _ _).alloc (Nat.le_refl _) _).drew)).2.2.2.2.2.2.2⟩ (fun hHeld => ?_)
         clear hK K
         refine n2_ 10 ?_
         refine o2_ 23 84 (bA_ 30 150994943) (fun K hK => ?_)
         refine g2_ Tryz.func79 #[.agg #[.int .i64 n, .slice X1 y1 x1, .slice X2 y2 x2, .slice X3 y3 x3], .int .i64 s0, .int .i64 s1, .int .i64 s2, .int .i64 s3] ?_
         with_reducible refine (HPJ.out _ ((((Below.refl _ _).alloc (Nat.le_refl _) _).drew))).mono ?_
         rintro e w3 ⟨A3, l3, k3, b3, rfl, hY3, g3⟩
         refine ⟨_, rfl, ?_⟩
         refine hK.out _ _ ⟨(HCF.out _ ((((Below.refl _ _).alloc (Nat.le_refl _) _).drew).trans (g3.mono (by simp)))).1, (HCF.out _ ((((Below.refl _ _).alloc (Nat.le_refl _) _).drew).trans (g3.mono (by simp)))).2.1, (HCF.out _ ((((Below.refl _ _).alloc (Nat.le_refl _) _).drew).trans (g3.mono (by simp)))).2.2.1, (HCF.out _ ((((Below.refl _ _).alloc (Nat.le_refl _) _).drew).trans (g3.mono (by simp)))).2.2.2.1, (HCF.out _ ((((Below.refl _ _).alloc (Nat.le_refl _) _).drew).trans (g3.mono (by simp)))).2.2.2.2.1, (HCF.out _ ((((Below.refl _ _).alloc (Nat.le_refl _) _).drew).trans (g3.mono (by simp)))).2.2.2.2.2.1, (HCF.out _ ((((Below.refl _ _).alloc (Nat.le_refl _) _).drew).trans (g3.mono (by simp)))).2.2.2.2.2.2.1, (HCF.out _ ((((Below.refl _ _).alloc (Nat.le_refl _) _).drew).trans (g3.mono (by simp)))).2.2.2.2.2.2.2⟩ (fun hHeld => ?_)
         clear hK K
         refine n2_ 84 ?_
         refine p2_ 24 60 (bA_ 30 167772159) ?_
         refine p2_ 25 85 (bA_ 30 201326591) ?_
         refine p2_ 26 86 (bA_ 30 268435455) ?_
         exact norm_ (by simp only [putAll, Act.put, List.setIfInBounds_toArray, List.set_cons_zero, List.set_cons_succ]) (hCont (A3, l3, k3, b3, wr.heap.size) _ ⟨(g3.block wr.heap.size (by simp)).trans (blk_new _ _), hY3, ((((Below.refl _ _).alloc (Nat.le_refl _) _).drew).trans (g3.mono (by simp))), Nat.le_refl _⟩)
       rintro ⟨Y, l', k', bq, gx⟩ w6 ⟨hb6, hY6, g6, hgx⟩
       simp only at hb6 hY6 g6 hgx
       have hHeld := HCF.out w6 g6
       obtain ⟨z0, z1, z2, z3, kl, kf⟩ := hb6.cells
       refine norm_ (a' := ?_) ?_ ?_
       rotate_left
       ·simp only [putAll, Act.put, List.setIfInBounds_toArray, List.set_cons_zero, List.set_cons_succ]
        rfl
       refine last_ (i := 28) (N := none) (bA_ 30 536870911) rfl rfl (by kernel_rfl) (by decide) (fun K hK => ?_)
       refine skip_ (w1 := ?_) (by rfl) rfl ?_ ?_
       rotate_left
       ·go_simp
        rfl
       refine hK.out _ _ ?_
       clear hK K
       refine p2_ 29 11 (bA_ 30 1073741823) ?_
       refine done_ (by kernel_rfl) ?_
       have HW7 : Hid (Below wr.heap.size wr (put4 w6 gx (.int .i64 n) (.slice X1 y1 x1) (.slice Y l' k') (.slice X3 y3 x3))) := Lib.hid (put4_below g6 hgx)
       have HT7 : Hid (TB (put4 w6 gx (.int .i64 n) (.slice X1 y1 x1) (.slice Y l' k') (.slice X3 y3 x3)) gx n (.slice X1 y1 x1) (.slice Y l' k') (.slice X3 y3 x3)) := Lib.hid (ZB.put hb6)
       have HY7 : Hid (Kd.R k156 156 (put4 w6 gx (.int .i64 n) (.slice X1 y1 x1) (.slice Y l' k') (.slice X3 y3 x3)) w.heap.size (fun _ => True) (.slice Y l' k') tj'.l) := Lib.hid (R_put4 hY6 hb6)
       clear g6 hgx hb6 hY6 z0 z1 z2 z3 kf kl hHeld
       unfold put4 at HW7 HT7 HY7
       generalize (((w6.setCell ⟨gx, 0, none⟩ (.int .i64 n)).setCell ⟨gx, 1, none⟩ (.slice X1 y1 x1)).setCell ⟨gx, 2, none⟩ (.slice Y l' k')).setCell ⟨gx, 3, none⟩ (.slice X3 y3 x3) = W7 at *
       have HB7 := Lib.hid (HB.out.below HW7.out)
       have HL7 := Lib.hid (Kd.R_below HLj.out HW7.out)
       have HB8 : Hid (BS w (put4 W7 gt (.int .i64 n) (.slice X1 y1 x1) (.slice Y l' k') (.slice X3 y3 x3)) gt gh n Sa Sk (.slice X1 y1 x1) (.slice Y l' k') (.slice X3 y3 x3) (.slice (some ⟨g, 0, none⟩) n c) vw tj' (rk.set v (r : Int)) H) := Lib.hid (by
        obtain ⟨k1, k2, k3, k4⟩ := HTN.out
        have h7 := HB7.out.tr
        exact HB7.out.lay ⟨by rw [k2]; exact h7.r1, HY7.out, by rw [k3]; exact h7.r3, by rw [k2, k1, h7.e1, HB7.out.tn], by rw [k3, k1, h7.e3, HB7.out.tn], by rw [k1]; omega, k4⟩ k1)
       have HL8 : Hid (Kd.R k71 71 (put4 W7 gt (.int .i64 n) (.slice X1 y1 x1) (.slice Y l' k') (.slice X3 y3 x3)) w.heap.size (fun _ => True) (.slice (some ad) m c') L) := Lib.hid (R_put4' HL7.out HB7.out.tb (by decide))
       unfold put4 at HB8 HL8
       obtain ⟨x0', x1', x2', x3', xl'⟩ := HT7.out.cells
       obtain ⟨t0', t1', t2', t3', tl'⟩ := HB7.out.tb.cells
       have tf : ∀ j, W7.frozen? ⟨gt, j, none⟩ = false := fun j => blk_frozen HB7.out.tb j
       clear HW7 HT7 HY7 HB HLj
       go_wp2_with fail
       go_roundw
       case measure => simp [intOf]; omega
       case rel => exact ⟨j + 1, _, _, _, by go_num, by omega, Lib.hid (by rw [HTJ.out]; exact HB8.out), HL8⟩
      ·have hjl : m ≤ j := by omega
       have HTK : Hid (L.take j = L) := Lib.hid (List.take_of_length_le (by rw [HM.out]; omega))
       rw [HTK.out] at HB
       clear HLj HTK
       obtain ⟨t1, ht1⟩ : ∃ t1, putsT t L = t1 := ⟨_, rfl⟩
       have HT1 := Lib.hid ht1
       rw [ht1] at HB
       clear ht1
       obtain ⟨c0, c1, c2, c3, l0⟩ := HB.out.tb.cells
       have htn1 : t1.n = n := HB.out.tn
       go_upto_region 19 with (first | (go_at_call 80; rw [← htn1]; refine (HB.out.tr.tv.outsR (v : Int)).mono ?_; rintro e W8 ⟨va, rfl, hRa, g8⟩; have HRa := Lib.hid (Kd.R_lower hRa HB.out.bel.size); have HB8 := Lib.hid (HB.out.below g8); clear hRa g8))
       obtain ⟨Va, cva, hva⟩ := Kd.R_slice HRa.out
       obtain ⟨na, hna⟩ : ∃ na, (rowB t1.n fun x => (wayP t1.l (v : Int) x).isSome).length = na := ⟨_, rfl⟩
       have HNA := Lib.hid hna
       rw [hna] at hva
       subst hva
       have HOW : Hid (∀ j : Nat, j < na → ∃ x : S69, wayP t1.l (v : Int) (rd (rowB t1.n fun x => (wayP t1.l (v : Int) x).isSome) (j : Int)) = some x ∧ (outW t1 (v : Int)).take (j + 1) = (outW t1 (v : Int)).take j ++ [⟨(v : Int), rd (rowB t1.n fun x => (wayP t1.l (v : Int) x).isSome) (j : Int), x⟩]) := Lib.hid (fun j hj => outW_take j (by rw [HNA.out]; exact hj))
       have HOL : Hid ((outW t1 (v : Int)).take na = outW t1 (v : Int)) := Lib.hid (List.take_of_length_le (by unfold outW; rw [List.length_map, HNA.out]; exact Nat.le_refl _))
       have HOLEN : Hid ((outW t1 (v : Int)).length ≤ 500) := Lib.hid (by unfold outW; rw [List.length_map]; have := rowB_len t1.n (fun x => (wayP t1.l (v : Int) x).isSome); omega)
       have hnan : na ≤ 500 := by rw [← HNA.out]; have := rowB_len t1.n (fun x => (wayP t1.l (v : Int) x).isSome); omega
       generalize (rowB t1.n fun x => (wayP t1.l (v : Int) x).isSome) = la at *
       obtain ⟨OW, hOW⟩ : ∃ OW, outW t1 (v : Int) = OW := ⟨_, rfl⟩
       have HOE6 := Lib.hid hOW
       rw [hOW] at HOW HOL HOLEN
       clear hOW hna
       have HB9 : Hid (BS w W8 gt gh n Sa Sk (.slice X1 y1 x1) (.slice X2 y2 x2) (.slice X3 y3 x3) (.slice (some ⟨g, 0, none⟩) n c) vw t1 (rk.set v (r : Int)) (H ++ OW.take 0)) := Lib.hid (by rw [List.take_zero, List.append_nil]; exact HB8.out)
       clear c0 c1 c2 c3 l0 HB
       go_wp2_with fail
       go_loopw [13] (fun vi wq => ∃ (j : Nat) (vw : Value), vi = .int .i64 j ∧ j ≤ na ∧ Hid (BS w wq gt gh n Sa Sk (.slice X1 y1 x1) (.slice X2 y2 x2) (.slice X3 y3 x3) (.slice (some ⟨g, 0, none⟩) n c) vw t1 (rk.set v (r : Int)) (H ++ OW.take j)) ∧ Hid (Kd.R (Kd.int .i64) 3 wq w.heap.size (fun _ => True) (.slice Va na cva) la)) (fun vi _ => na - (intOf vi).toNat)
       case atStart => exact ⟨0, _, rfl, by omega, HB9, HRa⟩
       case round =>
        obtain ⟨j, vw6, rfl, hj, HB, HRj⟩ := hrel
        clear HB8 HB9 HRa
        by_cases hjm : j < na
        ·have hj0 : (0 : Int) ≤ (j : Int) := Int.natCast_nonneg _
         have hj1 : (j : Int) < (na : Int) := by omega
         obtain ⟨x, hx, hot⟩ := HOW.out j hjm
         have HOT := Lib.hid hot
         obtain ⟨hLn, hLc, hLC⟩ := Kd.R_reads' HRj.out
         obtain ⟨ab, hA, _⟩ := Kd.at_int hLC (j : Int) (by omega) (by omega)
         subst hA
         have HCF : Hid (∀ W, Below wr.heap.size wr W → W.cell? ⟨gt, 0, none⟩ = some (.int .i64 n) ∧ W.cell? ⟨gt, 1, none⟩ = some (.slice X1 y1 x1) ∧ W.cell? ⟨gt, 2, none⟩ = some (.slice X2 y2 x2) ∧ W.cell? ⟨gt, 3, none⟩ = some (.slice X3 y3 x3) ∧ W.cell? (ab.add j) = some (.int .i64 (rd la (j : Int)))) := Lib.hid (fun W gg => by
          obtain ⟨k0, k1, k2, k3, _⟩ := (HB.out.tb.below gg).cells
          obtain ⟨ad', hA, r0⟩ := Kd.at_int (Kd.C_below hLC gg) (j : Int) (by omega) (by omega)
          cases hA
          exact ⟨k0, k1, k2, k3, r0⟩)
         obtain ⟨x0, x1', x2'⟩ := x
         have HWJ : Hid (∀ W, Below wr.heap.size wr W → Calls Tryz.prog 81 #[.agg #[.int .i64 n, .slice X1 y1 x1, .slice X2 y2 x2, .slice X3 y3 x3], .int .i64 v, .int .i64 (rd la (j : Int))] W fun r w' => r = .returned (.tuple #[.agg #[.int .i64 x0, .int .i64 x1', .int .i64 x2'], .bool true]) ∧ Below W.heap.size W w') := Lib.hid (fun W gg => by
          rw [← htn1]
          exact ((HB.out.tr.below gg).tv.way _ _).mono (fun r w' hh => by
           obtain ⟨h1, h2⟩ := hh
           rw [hx] at h1
           exact ⟨h1, h2⟩))
         have hhl : ((H ++ OW.take j).length + 1) * 40 ≤ 140737488355328 := by
          have h1 := HGD.out.hl
          have h2 : (OW.take j).length ≤ j := by rw [List.length_take]; omega
          simp only [List.length_append]
          skip
          omega
         clear hx hot hLC hLn hLc
         generalize rd la (j : Int) = qb at *
         go_upto_region 22 with fail
         refine start_ (n := 13) (S := fun w' => w'.cell? ⟨gt, 0, none⟩ = some (.int .i64 n) ∧ w'.cell? ⟨gt, 1, none⟩ = some (.slice X1 y1 x1) ∧ w'.cell? ⟨gt, 2, none⟩ = some (.slice X2 y2 x2) ∧ w'.cell? ⟨gt, 3, none⟩ = some (.slice X3 y3 x3) ∧ w'.cell? (ab.add j) = some (.int .i64 qb)) (ds := [11]) (bA_ 13 0) (by kernel_rfl) rfl rfl ⟨(HCF.out _ (Below.refl _ _).drew).1, (HCF.out _ (Below.refl _ _).drew).2.1, (HCF.out _ (Below.refl _ _).drew).2.2.1, (HCF.out _ (Below.refl _ _).drew).2.2.2.1, (HCF.out _ (Below.refl _ _).drew).2.2.2.2⟩ (fun hHeld => ?_)
         refine p2_ 1 99 (bA_ 13 2) ?_
         refine p2_ 2 100 (bA_ 13 6) ?_
         refine p2_ 3 101 (bA_ 13 14) ?_
         refine p2_ 4 102 (bA_ 13 30) ?_
         refine t2_ 0 98 (bA_ 13 31) hHeld ?_ (hy := by rintro w' ⟨s0, s1, s2, s3, s4⟩; go_simp; with_reducible rfl)
         refine t2_ 5 103 (bA_ 13 63) hHeld ?_ (hy := by rintro w' ⟨s0, s1, s2, s3, s4⟩; go_simp; with_reducible rfl)
         refine join_ (σ := Nat) 2 (bA_ 13 2047) (fun s => [(104, .tuple #[.agg #[.int .i64 x0, .int .i64 x1', .int .i64 x2'], .bool true]), (97, .tuple #[.agg #[.int .i64 x0, .int .i64 x1', .int .i64 x2'], .bool true]), (105, .agg #[.int .i64 x0, .int .i64 x1', .int .i64 x2']), (106, .bool true), (14, .pointer (some ⟨s, 0, none⟩))]) (fun s w' => w'.heap[s]? = some (.cells #[.int .i64 0, .int .i64 0, .int .i64 0] 69 (0, 0)) ∧ Below wr.heap.size wr w' ∧ wr.heap.size ≤ s) ?_ ?_
         rotate_left
         ·intro hCont
          refine two_ (i := 6) (j := 10) (Ni := some 104) (Nj := some 14) (bA_ 13 127) (bA_ 13 1087) rfl rfl rfl rfl (by kernel_rfl) (by decide) (by decide) (fun K hK => ?_) (fun K hK => ?_)
          ·skip
           refine g2_ Tryz.func81 #[.agg #[.int .i64 n, .slice X1 y1 x1, .slice X2 y2 x2, .slice X3 y3 x3], .int .i64 v, .int .i64 qb] ?_
           with_reducible refine (HWJ.out _ ((Below.refl _ _).drew)).mono ?_
           rintro e w3 ⟨rfl, g3⟩
           refine ⟨_, rfl, ?_⟩
           refine hK.out _ _ ⟨(HCF.out _ ((Below.refl _ _).drew.trans g3)).1, (HCF.out _ ((Below.refl _ _).drew.trans g3)).2.1, (HCF.out _ ((Below.refl _ _).drew.trans g3)).2.2.1, (HCF.out _ ((Below.refl _ _).drew.trans g3)).2.2.2.1, (HCF.out _ ((Below.refl _ _).drew.trans g3)).2.2.2.2⟩ (fun hHeld => ?_)
           clear hK K
           refine n2_ 104 ?_
           refine p2_ 7 97 (bA_ 13 255) ?_
           refine p2_ 8 105 (bA_ 13 511) ?_
           refine p2_ 9 106 (bA_ 13 1023) ?_
           refine o2_ 10 14 (bA_ 13 2047) (fun K hK => ?_)
           refine value_ (w1 := ?_) (v := ?_) (by rfl) rfl ?_ ?_
           rotate_left 2
           ·go_simp
            constructor
            ·rfl
            ·rfl
           refine hK.out _ _ ⟨(HCF.out _ (((Below.refl _ _).drew.trans g3).alloc g3.size _)).1, (HCF.out _ (((Below.refl _ _).drew.trans g3).alloc g3.size _)).2.1, (HCF.out _ (((Below.refl _ _).drew.trans g3).alloc g3.size _)).2.2.1, (HCF.out _ (((Below.refl _ _).drew.trans g3).alloc g3.size _)).2.2.2.1, (HCF.out _ (((Below.refl _ _).drew.trans g3).alloc g3.size _)).2.2.2.2⟩ (fun hHeld => ?_)
           clear hK K
           refine n2_ 14 ?_
           exact norm_ (by simp only [putAll, Act.put, List.setIfInBounds_toArray, List.set_cons_zero, List.set_cons_succ]) (hCont w3.heap.size _ ⟨blk_new w3 _, (((Below.refl _ _).drew.trans g3).alloc g3.size _), g3.size⟩)
          ·skip
           refine value_ (w1 := ?_) (v := ?_) (by rfl) rfl ?_ ?_
           rotate_left 2
           ·go_simp
            constructor
            ·rfl
            ·rfl
           refine hK.out _ _ ⟨(HCF.out _ (((Below.refl _ _).alloc (Nat.le_refl _) _).drew)).1, (HCF.out _ (((Below.refl _ _).alloc (Nat.le_refl _) _).drew)).2.1, (HCF.out _ (((Below.refl _ _).alloc (Nat.le_refl _) _).drew)).2.2.1, (HCF.out _ (((Below.refl _ _).alloc (Nat.le_refl _) _).drew)).2.2.2.1, (HCF.out _ (((Below.refl _ _).alloc (Nat.le_refl _) _).drew)).2.2.2.2⟩ (fun hHeld => ?_)
           clear hK K
           refine n2_ 14 ?_
           refine o2_ 6 104 (bA_ 13 1151) (fun K hK => ?_)
           refine g2_ Tryz.func81 #[.agg #[.int .i64 n, .slice X1 y1 x1, .slice X2 y2 x2, .slice X3 y3 x3], .int .i64 v, .int .i64 qb] ?_
           with_reducible refine (HWJ.out _ ((((Below.refl _ _).alloc (Nat.le_refl _) _).drew))).mono ?_
           rintro e w3 ⟨rfl, g3⟩
           refine ⟨_, rfl, ?_⟩
           refine hK.out _ _ ⟨(HCF.out _ ((((Below.refl _ _).alloc (Nat.le_refl _) _).drew).trans (g3.mono (by simp)))).1, (HCF.out _ ((((Below.refl _ _).alloc (Nat.le_refl _) _).drew).trans (g3.mono (by simp)))).2.1, (HCF.out _ ((((Below.refl _ _).alloc (Nat.le_refl _) _).drew).trans (g3.mono (by simp)))).2.2.1, (HCF.out _ ((((Below.refl _ _).alloc (Nat.le_refl _) _).drew).trans (g3.mono (by simp)))).2.2.2.1, (HCF.out _ ((((Below.refl _ _).alloc (Nat.le_refl _) _).drew).trans (g3.mono (by simp)))).2.2.2.2⟩ (fun hHeld => ?_)
           clear hK K
           refine n2_ 104 ?_
           refine p2_ 7 97 (bA_ 13 1279) ?_
           refine p2_ 8 105 (bA_ 13 1535) ?_
           refine p2_ 9 106 (bA_ 13 2047) ?_
           exact norm_ (by simp only [putAll, Act.put, List.setIfInBounds_toArray, List.set_cons_zero, List.set_cons_succ]) (hCont wr.heap.size _ ⟨(g3.block wr.heap.size (by simp)).trans (blk_new _ _), ((((Below.refl _ _).alloc (Nat.le_refl _) _).drew).trans (g3.mono (by simp))), Nat.le_refl _⟩)
         rintro gp w6 ⟨hb6, g6, hgp⟩
         have hHeld := HCF.out w6 g6
         have z0 := (blk_cell hb6 0).trans rfl
         have z1 := (blk_cell hb6 1).trans rfl
         have z2 := (blk_cell hb6 2).trans rfl
         have kf : ∀ j, w6.frozen? ⟨gp, j, none⟩ = false := fun j => blk_frozen hb6 j
         have kl := blk_lt hb6
         refine norm_ (a' := ?_) ?_ ?_
         rotate_left
         ·simp only [putAll, Act.put, List.setIfInBounds_toArray, List.set_cons_zero, List.set_cons_succ]
          rfl
         refine last_ (i := 11) (N := none) (bA_ 13 4095) rfl rfl (by kernel_rfl) (by decide) (fun K hK => ?_)
         refine skip_ (w1 := ?_) (by rfl) rfl ?_ ?_
         rotate_left
         ·go_simp
          rfl
         refine hK.out _ _ ?_
         clear hK K
         refine p2_ 12 15 (bA_ 13 8191) ?_
         refine done_ (by kernel_rfl) ?_
         have HW7 : Hid (Below wr.heap.size wr (((w6.setCell ⟨gp, 0, none⟩ (.int .i64 x0)).setCell ⟨gp, 1, none⟩ (.int .i64 x1')).setCell ⟨gp, 2, none⟩ (.int .i64 x2'))) := Lib.hid (((g6.setCell (p := ⟨gp, 0, none⟩) hgp _).setCell (p := ⟨gp, 1, none⟩) hgp _).setCell (p := ⟨gp, 2, none⟩) hgp _)
         have HX7 := Lib.hid (blk_put (blk_put (blk_put hb6 0 (.int .i64 x0) rfl) 1 (.int .i64 x1') rfl) 2 (.int .i64 x2') rfl)
         clear g6 hgp hb6 z0 z1 z2 kf kl hHeld
         generalize ((w6.setCell ⟨gp, 0, none⟩ (.int .i64 x0)).setCell ⟨gp, 1, none⟩ (.int .i64 x1')).setCell ⟨gp, 2, none⟩ (.int .i64 x2') = W7 at *
         have HB7 := Lib.hid (HB.out.below (HW7.out.trans ((Below.refl _ _).drew.mono HW7.out.size)))
         have HR7 := Lib.hid (Kd.R_below HRj.out (HW7.out.trans ((Below.refl _ _).drew.mono HW7.out.size)))
         obtain ⟨_, _, _, _, pq⟩ := HCF.out W7 HW7.out
         have p0 : W7.cell? ⟨gp, 0, none⟩ = some (.int .i64 x0) := (blk_cell HX7.out 0).trans rfl
         have p1' : W7.cell? ⟨gp, 1, none⟩ = some (.int .i64 x1') := (blk_cell HX7.out 1).trans rfl
         have p2' : W7.cell? ⟨gp, 2, none⟩ = some (.int .i64 x2') := (blk_cell HX7.out 2).trans rfl
         have ph : W7.cell? ⟨gh, 1, none⟩ = some vw6 := (blk_cell HB7.out.hb 1).trans rfl
         clear HB HRj HCF HWJ HX7 HW7
         go_upto_region 23 with fail
         refine start_ (n := 13) (S := fun w' => w'.cell? ⟨gh, 1, none⟩ = some vw6 ∧ w'.cell? (ab.add j) = some (.int .i64 qb) ∧ w'.cell? ⟨gp, 0, none⟩ = some (.int .i64 x0) ∧ w'.cell? ⟨gp, 1, none⟩ = some (.int .i64 x1') ∧ w'.cell? ⟨gp, 2, none⟩ = some (.int .i64 x2')) (ds := [10, 12]) (bA_ 13 0) (by kernel_rfl) rfl rfl ⟨ph, pq, p0, p1', p2'⟩ (fun hHeld => ?_)
         refine p2_ 0 107 (bA_ 13 1) ?_
         refine p2_ 2 109 (bA_ 13 5) ?_
         refine p2_ 3 110 (bA_ 13 13) ?_
         refine p2_ 4 111 (bA_ 13 29) ?_
         refine p2_ 5 112 (bA_ 13 61) ?_
         refine t2_ 1 108 (bA_ 13 63) hHeld ?_ (hy := by rintro w' ⟨s0, s1, s2, s3, s4⟩; go_simp; with_reducible rfl)
         refine t2_ 6 113 (bA_ 13 127) hHeld ?_ (hy := by rintro w' ⟨s0, s1, s2, s3, s4⟩; go_simp; with_reducible rfl)
         refine t2_ 7 114 (bA_ 13 255) hHeld ?_ (hy := by rintro w' ⟨s0, s1, s2, s3, s4⟩; go_simp; with_reducible rfl)
         refine p2_ 8 115 (bA_ 13 511) ?_
         refine o2_ 9 116 (bA_ 13 1023) (fun K hK => ?_)
         refine value_ (w1 := ?_) (v := ?_) (by rfl) rfl ?_ ?_
         rotate_left 2
         ·go_simp
          constructor
          ·rfl
          ·rfl
         refine hK.out _ _ ⟨(cell_allocN hHeld.1), (cell_allocN hHeld.2.1), (cell_allocN hHeld.2.2.1), (cell_allocN hHeld.2.2.2.1), (cell_allocN hHeld.2.2.2.2)⟩ (fun hHeld => ?_)
         clear hK K
         refine n2_ 116 ?_
         refine last_ (i := 10) (N := some 117) (bA_ 13 2047) rfl rfl (by kernel_rfl) (by decide) (fun K hK => ?_)
         refine Kd.R_append_step k71 (w0 := w) w.heap.size (by rfl) (.tmp 108) (.tmp 116) 29 71 (.agg #[(.int .i64 0), (.int .i64 0), (.int .i64 0), (.int .i64 0), (.int .i64 0)]) 40 rfl Tryz.underlying29 info66N rfl (by decide) (by omega) _ (H ++ OW.take j) (⟨(v : Int), qb, ⟨x0, x1', x2'⟩⟩ : S71) [.int .i64 v, .int .i64 qb, .int .i64 x0, .int .i64 x1', .int .i64 x2'] (fun _ => True) (fun _ => False) rfl rfl (k71_mkM _ _ _ (⟨(v : Int), qb, ⟨x0, x1', x2'⟩⟩ : S71)) (fun _ h => h.elim) (fun _ _ => trivial) HB7.out.rw HB7.out.bel HB7.out.bel.size hhl ?_
         intro vn w8 hR hB hg _
         obtain ⟨A9, c9, hv9⟩ := Kd.R_slice hR
         generalize hm9 : (H ++ OW.take j ++ [(⟨(v : Int), qb, ⟨x0, x1', x2'⟩⟩ : S71)]).length = m9 at hv9
         subst hv9
         have HV2 := Lib.hid (BS.appw HB7.out hg hR hB)
         have hm := BS.midw HB7.out hg
         have HRV : Hid (Kd.R (Kd.int .i64) 3 (w8.setCell ⟨gh, 1, none⟩ (.slice A9 m9 c9)) w.heap.size (fun _ => True) (.slice (some ab) na cva) la) := Lib.hid (Kd.R_set (Kd.R_over HR7.out HB7.out.rw (by decide) hg) hm (by decide) 1 _)
         have x0h := (blk_cell hm 0).trans rfl
         have x1h := (blk_cell hm 1).trans rfl
         have xlh := blk_lt hm
         have xf : ∀ j, w8.frozen? ⟨gh, j, none⟩ = false := fun j => blk_frozen hm j
         clear hR hB hg hm
         refine hK.out _ _ ?_
         clear hK K
         refine n2_ 117 ?_
         refine p2_ 11 118 (bA_ 13 4095) ?_
         refine last_ (i := 12) (N := none) (bA_ 13 8191) rfl rfl (by kernel_rfl) (by decide) (fun K hK => ?_)
         refine skip_ (w1 := ?_) (by rfl) rfl ?_ ?_
         rotate_left
         ·go_simp
          rfl
         refine hK.out _ _ ?_
         clear hK K
         refine done_ (by kernel_rfl) ?_
         go_wp2_with fail
         go_roundw
         case measure => simp [intOf]; omega
         case rel => exact ⟨j + 1, _, by go_num, by omega, Lib.hid (by rw [HOT.out, ← List.append_assoc]; exact HV2.out), HRV⟩
        ·have hjl : na ≤ j := by omega
         have HJE : Hid (j = na) := Lib.hid (by omega)
         rw [HJE.out, HOL.out] at HB
         clear HRj HOW HOL
         have hHH : (H ++ OW).length ≤ 401000 := by
          have h1 := HGD.out.hl
          have h2 := HOLEN.out
          simp only [List.length_append]
          omega
         have HH6 : Hid ((H ++ OW).length ≤ 401000) := Lib.hid hHH
         obtain ⟨H6, hH6⟩ : ∃ x, H ++ OW = x := ⟨_, rfl⟩
         have HE6 := Lib.hid hH6
         rw [hH6] at HB HH6
         clear hH6 hHH HOLEN HNA
         obtain ⟨c0, c1, c2, c3, l0⟩ := HB.out.tb.cells
         generalize OW = OW6 at *
         go_upto_region 25 with (first | (go_at_call 82; rw [← htn1]; refine (HB.out.tr.tv.insR (v : Int)).mono ?_; rintro e W8 ⟨va, rfl, hRa, g8⟩; have HRa := Lib.hid (Kd.R_lower hRa HB.out.bel.size); have HB8 := Lib.hid (HB.out.below g8); clear hRa g8))
         obtain ⟨Va, cva, hva⟩ := Kd.R_slice HRa.out
         obtain ⟨na, hna⟩ : ∃ na, (rowB t1.n fun x => (wayP t1.l x (v : Int)).isSome).length = na := ⟨_, rfl⟩
         have HNA := Lib.hid hna
         rw [hna] at hva
         subst hva
         have HOW : Hid (∀ j : Nat, j < na → ∃ x : S69, wayP t1.l (rd (rowB t1.n fun x => (wayP t1.l x (v : Int)).isSome) (j : Int)) (v : Int) = some x ∧ (inW t1 (v : Int)).take (j + 1) = (inW t1 (v : Int)).take j ++ [⟨rd (rowB t1.n fun x => (wayP t1.l x (v : Int)).isSome) (j : Int), (v : Int), x⟩]) := Lib.hid (fun j hj => inW_take j (by rw [HNA.out]; exact hj))
         have HOL : Hid ((inW t1 (v : Int)).take na = inW t1 (v : Int)) := Lib.hid (List.take_of_length_le (by unfold inW; rw [List.length_map, HNA.out]; exact Nat.le_refl _))
         have HOLEN : Hid ((inW t1 (v : Int)).length ≤ 500) := Lib.hid (by unfold inW; rw [List.length_map]; have := rowB_len t1.n (fun x => (wayP t1.l x (v : Int)).isSome); omega)
         have hnan : na ≤ 500 := by rw [← HNA.out]; have := rowB_len t1.n (fun x => (wayP t1.l x (v : Int)).isSome); omega
         generalize (rowB t1.n fun x => (wayP t1.l x (v : Int)).isSome) = la at *
         obtain ⟨OW, hOW⟩ : ∃ OW, inW t1 (v : Int) = OW := ⟨_, rfl⟩
         have HOE8 := Lib.hid hOW
         rw [hOW] at HOW HOL HOLEN
         clear hOW hna
         have HB9 : Hid (BS w W8 gt gh n Sa Sk (.slice X1 y1 x1) (.slice X2 y2 x2) (.slice X3 y3 x3) (.slice (some ⟨g, 0, none⟩) n c) vw6 t1 (rk.set v (r : Int)) (H6 ++ OW.take 0)) := Lib.hid (by rw [List.take_zero, List.append_nil]; exact HB8.out)
         clear c0 c1 c2 c3 l0 HB
         go_wp2_with fail
         go_loopw [17] (fun vi wq => ∃ (j : Nat) (vw : Value), vi = .int .i64 j ∧ j ≤ na ∧ Hid (BS w wq gt gh n Sa Sk (.slice X1 y1 x1) (.slice X2 y2 x2) (.slice X3 y3 x3) (.slice (some ⟨g, 0, none⟩) n c) vw t1 (rk.set v (r : Int)) (H6 ++ OW.take j)) ∧ Hid (Kd.R (Kd.int .i64) 3 wq w.heap.size (fun _ => True) (.slice Va na cva) la)) (fun vi _ => na - (intOf vi).toNat)
         case atStart => exact ⟨0, _, rfl, by omega, HB9, HRa⟩
         case round =>
          obtain ⟨j, vw8, rfl, hj, HB, HRj⟩ := hrel
          clear HB8 HB9 HRa
          by_cases hjm : j < na
          ·have hj0 : (0 : Int) ≤ (j : Int) := Int.natCast_nonneg _
           have hj1 : (j : Int) < (na : Int) := by omega
           obtain ⟨x, hx, hot⟩ := HOW.out j hjm
           have HOT := Lib.hid hot
           obtain ⟨hLn, hLc, hLC⟩ := Kd.R_reads' HRj.out
           obtain ⟨ab, hA, _⟩ := Kd.at_int hLC (j : Int) (by omega) (by omega)
           subst hA
           have HCF : Hid (∀ W, Below wr.heap.size wr W → W.cell? ⟨gt, 0, none⟩ = some (.int .i64 n) ∧ W.cell? ⟨gt, 1, none⟩ = some (.slice X1 y1 x1) ∧ W.cell? ⟨gt, 2, none⟩ = some (.slice X2 y2 x2) ∧ W.cell? ⟨gt, 3, none⟩ = some (.slice X3 y3 x3) ∧ W.cell? (ab.add j) = some (.int .i64 (rd la (j : Int)))) := Lib.hid (fun W gg => by
            obtain ⟨k0, k1, k2, k3, _⟩ := (HB.out.tb.below gg).cells
            obtain ⟨ad', hA, r0⟩ := Kd.at_int (Kd.C_below hLC gg) (j : Int) (by omega) (by omega)
            cases hA
            exact ⟨k0, k1, k2, k3, r0⟩)
           obtain ⟨x0, x1', x2'⟩ := x
           have HWJ : Hid (∀ W, Below wr.heap.size wr W → Calls Tryz.prog 81 #[.agg #[.int .i64 n, .slice X1 y1 x1, .slice X2 y2 x2, .slice X3 y3 x3], .int .i64 (rd la (j : Int)), .int .i64 v] W fun r w' => r = .returned (.tuple #[.agg #[.int .i64 x0, .int .i64 x1', .int .i64 x2'], .bool true]) ∧ Below W.heap.size W w') := Lib.hid (fun W gg => by
            rw [← htn1]
            exact ((HB.out.tr.below gg).tv.way _ _).mono (fun r w' hh => by
             obtain ⟨h1, h2⟩ := hh
             rw [hx] at h1
             exact ⟨h1, h2⟩))
           have hhl : ((H6 ++ OW.take j).length + 1) * 40 ≤ 140737488355328 := by
            have h1 := HGD.out.hl
            have h2 : (OW.take j).length ≤ j := by rw [List.length_take]; omega
            simp only [List.length_append]
            have h3 := HH6.out
            omega
           clear hx hot hLC hLn hLc
           generalize rd la (j : Int) = qb at *
           go_upto_region 28 with fail
           refine start_ (n := 13) (S := fun w' => w'.cell? ⟨gt, 0, none⟩ = some (.int .i64 n) ∧ w'.cell? ⟨gt, 1, none⟩ = some (.slice X1 y1 x1) ∧ w'.cell? ⟨gt, 2, none⟩ = some (.slice X2 y2 x2) ∧ w'.cell? ⟨gt, 3, none⟩ = some (.slice X3 y3 x3) ∧ w'.cell? (ab.add j) = some (.int .i64 qb)) (ds := [11]) (bA_ 13 0) (by kernel_rfl) rfl rfl ⟨(HCF.out _ (Below.refl _ _).drew).1, (HCF.out _ (Below.refl _ _).drew).2.1, (HCF.out _ (Below.refl _ _).drew).2.2.1, (HCF.out _ (Below.refl _ _).drew).2.2.2.1, (HCF.out _ (Below.refl _ _).drew).2.2.2.2⟩ (fun hHeld => ?_)
           refine p2_ 1 130 (bA_ 13 2) ?_
           refine p2_ 2 131 (bA_ 13 6) ?_
           refine p2_ 3 132 (bA_ 13 14) ?_
           refine p2_ 5 134 (bA_ 13 46) ?_
           refine t2_ 0 129 (bA_ 13 47) hHeld ?_ (hy := by rintro w' ⟨s0, s1, s2, s3, s4⟩; go_simp; with_reducible rfl)
           refine t2_ 4 133 (bA_ 13 63) hHeld ?_ (hy := by rintro w' ⟨s0, s1, s2, s3, s4⟩; go_simp; with_reducible rfl)
           refine join_ (σ := Nat) 2 (bA_ 13 2047) (fun s => [(135, .tuple #[.agg #[.int .i64 x0, .int .i64 x1', .int .i64 x2'], .bool true]), (128, .tuple #[.agg #[.int .i64 x0, .int .i64 x1', .int .i64 x2'], .bool true]), (136, .agg #[.int .i64 x0, .int .i64 x1', .int .i64 x2']), (137, .bool true), (18, .pointer (some ⟨s, 0, none⟩))]) (fun s w' => w'.heap[s]? = some (.cells #[.int .i64 0, .int .i64 0, .int .i64 0] 69 (0, 0)) ∧ Below wr.heap.size wr w' ∧ wr.heap.size ≤ s) ?_ ?_
           rotate_left
           ·intro hCont
            refine two_ (i := 6) (j := 10) (Ni := some 135) (Nj := some 18) (bA_ 13 127) (bA_ 13 1087) rfl rfl rfl rfl (by kernel_rfl) (by decide) (by decide) (fun K hK => ?_) (fun K hK => ?_)
            ·skip
             refine g2_ Tryz.func81 #[.agg #[.int .i64 n, .slice X1 y1 x1, .slice X2 y2 x2, .slice X3 y3 x3], .int .i64 qb, .int .i64 v] ?_
             with_reducible refine (HWJ.out _ ((Below.refl _ _).drew)).mono ?_
             rintro e w3 ⟨rfl, g3⟩
             refine ⟨_, rfl, ?_⟩
             refine hK.out _ _ ⟨(HCF.out _ ((Below.refl _ _).drew.trans g3)).1, (HCF.out _ ((Below.refl _ _).drew.trans g3)).2.1, (HCF.out _ ((Below.refl _ _).drew.trans g3)).2.2.1, (HCF.out _ ((Below.refl _ _).drew.trans g3)).2.2.2.1, (HCF.out _ ((Below.refl _ _).drew.trans g3)).2.2.2.2⟩ (fun hHeld => ?_)
             clear hK K
             refine n2_ 135 ?_
             refine p2_ 7 128 (bA_ 13 255) ?_
             refine p2_ 8 136 (bA_ 13 511) ?_
             refine p2_ 9 137 (bA_ 13 1023) ?_
             refine o2_ 10 18 (bA_ 13 2047) (fun K hK => ?_)
             refine value_ (w1 := ?_) (v := ?_) (by rfl) rfl ?_ ?_
             rotate_left 2
             ·go_simp
              constructor
              ·rfl
              ·rfl
             refine hK.out _ _ ⟨(HCF.out _ (((Below.refl _ _).drew.trans g3).alloc g3.size _)).1, (HCF.out _ (((Below.refl _ _).drew.trans g3).alloc g3.size _)).2.1, (HCF.out _ (((Below.refl _ _).drew.trans g3).alloc g3.size _)).2.2.1, (HCF.out _ (((Below.refl _ _).drew.trans g3).alloc g3.size _)).2.2.2.1, (HCF.out _ (((Below.refl _ _).drew.trans g3).alloc g3.size _)).2.2.2.2⟩ (fun hHeld => ?_)
             clear hK K
             refine n2_ 18 ?_
             exact norm_ (by simp only [putAll, Act.put, List.setIfInBounds_toArray, List.set_cons_zero, List.set_cons_succ]) (hCont w3.heap.size _ ⟨blk_new w3 _, (((Below.refl _ _).drew.trans g3).alloc g3.size _), g3.size⟩)
            ·skip
             refine value_ (w1 := ?_) (v := ?_) (by rfl) rfl ?_ ?_
             rotate_left 2
             ·go_simp
              constructor
              ·rfl
              ·rfl
             refine hK.out _ _ ⟨(HCF.out _ (((Below.refl _ _).alloc (Nat.le_refl _) _).drew)).1, (HCF.out _ (((Below.refl _ _).alloc (Nat.le_refl _) _).drew)).2.1, (HCF.out _ (((Below.refl _ _).alloc (Nat.le_refl _) _).drew)).2.2.1, (HCF.out _ (((Below.refl _ _).alloc (Nat.le_refl _) _).drew)).2.2.2.1, (HCF.out _ (((Below.refl _ _).alloc (Nat.le_refl _) _).drew)).2.2.2.2⟩ (fun hHeld => ?_)
             clear hK K
             refine n2_ 18 ?_
             refine o2_ 6 135 (bA_ 13 1151) (fun K hK => ?_)
             refine g2_ Tryz.func81 #[.agg #[.int .i64 n, .slice X1 y1 x1, .slice X2 y2 x2, .slice X3 y3 x3], .int .i64 qb, .int .i64 v] ?_
             with_reducible refine (HWJ.out _ ((((Below.refl _ _).alloc (Nat.le_refl _) _).drew))).mono ?_
             rintro e w3 ⟨rfl, g3⟩
             refine ⟨_, rfl, ?_⟩
             refine hK.out _ _ ⟨(HCF.out _ ((((Below.refl _ _).alloc (Nat.le_refl _) _).drew).trans (g3.mono (by simp)))).1, (HCF.out _ ((((Below.refl _ _).alloc (Nat.le_refl _) _).drew).trans (g3.mono (by simp)))).2.1, (HCF.out _ ((((Below.refl _ _).alloc (Nat.le_refl _) _).drew).trans (g3.mono (by simp)))).2.2.1, (HCF.out _ ((((Below.refl _ _).alloc (Nat.le_refl _) _).drew).trans (g3.mono (by simp)))).2.2.2.1, (HCF.out _ ((((Below.refl _ _).alloc (Nat.le_refl _) _).drew).trans (g3.mono (by simp)))).2.2.2.2⟩ (fun hHeld => ?_)
             clear hK K
             refine n2_ 135 ?_
             refine p2_ 7 128 (bA_ 13 1279) ?_
             refine p2_ 8 136 (bA_ 13 1535) ?_
             refine p2_ 9 137 (bA_ 13 2047) ?_
             exact norm_ (by simp only [putAll, Act.put, List.setIfInBounds_toArray, List.set_cons_zero, List.set_cons_succ]) (hCont wr.heap.size _ ⟨(g3.block wr.heap.size (by simp)).trans (blk_new _ _), ((((Below.refl _ _).alloc (Nat.le_refl _) _).drew).trans (g3.mono (by simp))), Nat.le_refl _⟩)
           rintro gp w6 ⟨hb6, g6, hgp⟩
           have hHeld := HCF.out w6 g6
           have z0 := (blk_cell hb6 0).trans rfl
           have z1 := (blk_cell hb6 1).trans rfl
           have z2 := (blk_cell hb6 2).trans rfl
           have kf : ∀ j, w6.frozen? ⟨gp, j, none⟩ = false := fun j => blk_frozen hb6 j
           have kl := blk_lt hb6
           refine norm_ (a' := ?_) ?_ ?_
           rotate_left
           ·simp only [putAll, Act.put, List.setIfInBounds_toArray, List.set_cons_zero, List.set_cons_succ]
            rfl
           refine last_ (i := 11) (N := none) (bA_ 13 4095) rfl rfl (by kernel_rfl) (by decide) (fun K hK => ?_)
           refine skip_ (w1 := ?_) (by rfl) rfl ?_ ?_
           rotate_left
           ·go_simp
            rfl
           refine hK.out _ _ ?_
           clear hK K
           refine p2_ 12 19 (bA_ 13 8191) ?_
           refine done_ (by kernel_rfl) ?_
           have HW7 : Hid (Below wr.heap.size wr (((w6.setCell ⟨gp, 0, none⟩ (.int .i64 x0)).setCell ⟨gp, 1, none⟩ (.int .i64 x1')).setCell ⟨gp, 2, none⟩ (.int .i64 x2'))) := Lib.hid (((g6.setCell (p := ⟨gp, 0, none⟩) hgp _).setCell (p := ⟨gp, 1, none⟩) hgp _).setCell (p := ⟨gp, 2, none⟩) hgp _)
           have HX7 := Lib.hid (blk_put (blk_put (blk_put hb6 0 (.int .i64 x0) rfl) 1 (.int .i64 x1') rfl) 2 (.int .i64 x2') rfl)
           clear g6 hgp hb6 z0 z1 z2 kf kl hHeld
           generalize ((w6.setCell ⟨gp, 0, none⟩ (.int .i64 x0)).setCell ⟨gp, 1, none⟩ (.int .i64 x1')).setCell ⟨gp, 2, none⟩ (.int .i64 x2') = W7 at *
           have HB7 := Lib.hid (HB.out.below (HW7.out.trans ((Below.refl _ _).drew.mono HW7.out.size)))
           have HR7 := Lib.hid (Kd.R_below HRj.out (HW7.out.trans ((Below.refl _ _).drew.mono HW7.out.size)))
           obtain ⟨_, _, _, _, pq⟩ := HCF.out W7 HW7.out
           have p0 : W7.cell? ⟨gp, 0, none⟩ = some (.int .i64 x0) := (blk_cell HX7.out 0).trans rfl
           have p1' : W7.cell? ⟨gp, 1, none⟩ = some (.int .i64 x1') := (blk_cell HX7.out 1).trans rfl
           have p2' : W7.cell? ⟨gp, 2, none⟩ = some (.int .i64 x2') := (blk_cell HX7.out 2).trans rfl
           have ph : W7.cell? ⟨gh, 1, none⟩ = some vw8 := (blk_cell HB7.out.hb 1).trans rfl
           clear HB HRj HCF HWJ HX7 HW7
           go_upto_region 29 with fail
           refine start_ (n := 13) (S := fun w' => w'.cell? ⟨gh, 1, none⟩ = some vw8 ∧ w'.cell? (ab.add j) = some (.int .i64 qb) ∧ w'.cell? ⟨gp, 0, none⟩ = some (.int .i64 x0) ∧ w'.cell? ⟨gp, 1, none⟩ = some (.int .i64 x1') ∧ w'.cell? ⟨gp, 2, none⟩ = some (.int .i64 x2')) (ds := [10, 12]) (bA_ 13 0) (by kernel_rfl) rfl rfl ⟨ph, pq, p0, p1', p2'⟩ (fun hHeld => ?_)
           refine p2_ 0 138 (bA_ 13 1) ?_
           refine p2_ 2 140 (bA_ 13 5) ?_
           refine p2_ 3 141 (bA_ 13 13) ?_
           refine p2_ 4 142 (bA_ 13 29) ?_
           refine p2_ 6 144 (bA_ 13 93) ?_
           refine t2_ 1 139 (bA_ 13 95) hHeld ?_ (hy := by rintro w' ⟨s0, s1, s2, s3, s4⟩; go_simp; with_reducible rfl)
           refine t2_ 5 143 (bA_ 13 127) hHeld ?_ (hy := by rintro w' ⟨s0, s1, s2, s3, s4⟩; go_simp; with_reducible rfl)
           refine t2_ 7 145 (bA_ 13 255) hHeld ?_ (hy := by rintro w' ⟨s0, s1, s2, s3, s4⟩; go_simp; with_reducible rfl)
           refine p2_ 8 146 (bA_ 13 511) ?_
           refine o2_ 9 147 (bA_ 13 1023) (fun K hK => ?_)
           refine value_ (w1 := ?_) (v := ?_) (by rfl) rfl ?_ ?_
           rotate_left 2
           ·go_simp
            constructor
            ·rfl
            ·rfl
           refine hK.out _ _ ⟨(cell_allocN hHeld.1), (cell_allocN hHeld.2.1), (cell_allocN hHeld.2.2.1), (cell_allocN hHeld.2.2.2.1), (cell_allocN hHeld.2.2.2.2)⟩ (fun hHeld => ?_)
           clear hK K
           refine n2_ 147 ?_
           refine last_ (i := 10) (N := some 148) (bA_ 13 2047) rfl rfl (by kernel_rfl) (by decide) (fun K hK => ?_)
           refine Kd.R_append_step k71 (w0 := w) w.heap.size (by rfl) (.tmp 139) (.tmp 147) 29 71 (.agg #[(.int .i64 0), (.int .i64 0), (.int .i64 0), (.int .i64 0), (.int .i64 0)]) 40 rfl Tryz.underlying29 info66N rfl (by decide) (by omega) _ (H6 ++ OW.take j) (⟨qb, (v : Int), ⟨x0, x1', x2'⟩⟩ : S71) [.int .i64 qb, .int .i64 v, .int .i64 x0, .int .i64 x1', .int .i64 x2'] (fun _ => True) (fun _ => False) rfl rfl (k71_mkM _ _ _ (⟨qb, (v : Int), ⟨x0, x1', x2'⟩⟩ : S71)) (fun _ h => h.elim) (fun _ _ => trivial) HB7.out.rw HB7.out.bel HB7.out.bel.size hhl ?_
           intro vn w8 hR hB hg _
           obtain ⟨A9, c9, hv9⟩ := Kd.R_slice hR
           generalize hm9 : (H6 ++ OW.take j ++ [(⟨qb, (v : Int), ⟨x0, x1', x2'⟩⟩ : S71)]).length = m9 at hv9
           subst hv9
           have HV2 := Lib.hid (BS.appw HB7.out hg hR hB)
           have hm := BS.midw HB7.out hg
           have HRV : Hid (Kd.R (Kd.int .i64) 3 (w8.setCell ⟨gh, 1, none⟩ (.slice A9 m9 c9)) w.heap.size (fun _ => True) (.slice (some ab) na cva) la) := Lib.hid (Kd.R_set (Kd.R_over HR7.out HB7.out.rw (by decide) hg) hm (by decide) 1 _)
           have x0h := (blk_cell hm 0).trans rfl
           have x1h := (blk_cell hm 1).trans rfl
           have xlh := blk_lt hm
           have xf : ∀ j, w8.frozen? ⟨gh, j, none⟩ = false := fun j => blk_frozen hm j
           clear hR hB hg hm
           refine hK.out _ _ ?_
           clear hK K
           refine n2_ 148 ?_
           refine p2_ 11 149 (bA_ 13 4095) ?_
           refine last_ (i := 12) (N := none) (bA_ 13 8191) rfl rfl (by kernel_rfl) (by decide) (fun K hK => ?_)
           refine skip_ (w1 := ?_) (by rfl) rfl ?_ ?_
           rotate_left
           ·go_simp
            rfl
           refine hK.out _ _ ?_
           clear hK K
           refine done_ (by kernel_rfl) ?_
           go_wp2_with fail
           go_roundw
           case measure => simp [intOf]; omega
           case rel => exact ⟨j + 1, _, by go_num, by omega, Lib.hid (by rw [HOT.out, ← List.append_assoc]; exact HV2.out), HRV⟩
          ·have hjl : na ≤ j := by omega
           have HJE : Hid (j = na) := Lib.hid (by omega)
           rw [HJE.out, HOL.out] at HB
           clear HRj HOW HOL
           have HHE : Hid (H6 ++ OW = H ++ outW (putsT t L) (v : Int) ++ inW (putsT t L) (v : Int)) := Lib.hid (by rw [← HE6.out, ← HOE6.out, ← HOE8.out, HT1.out])
           rw [HHE.out] at HB
           have HST : Hid (∀ t', TakeOk t1 (v : Int) t' → I (r + 1) t' (rk.set v (r : Int)) (H ++ outW (putsT t L) (v : Int) ++ inW (putsT t L) (v : Int))) := Lib.hid (fun t' ht => HS.out r t rk H v L t' HIr.out hrn HV.out HN.out (by rw [HT1.out]; exact ht))
           generalize H ++ outW (putsT t L) (v : Int) ++ inW (putsT t L) (v : Int) = Hn at *
           have hvt : isP t1 (v : Int) = true := by rw [← HT1.out, putsT_isP]; exact HV.out
           have hfl : t1.l.length ≤ 1000000 := HB.out.tr.few
           obtain ⟨c0, c1, c2, c3, l0⟩ := HB.out.tb.cells
           have HVT := Lib.hid hvt
           clear hvt
           go_upto_region 31 with (first | (go_at_call 83; rw [← htn1]; refine (HB.out.tr.tv.take v HVT.out hfl).mono ?_; rintro e W9 ⟨Z1, Z2, Z3, t', rfl, hTO, hTR, g9⟩; obtain ⟨D1, p1', hz1⟩ := Kd.R_slice hTR.r1; obtain ⟨D2, p2', hz2⟩ := Kd.R_slice hTR.r2; obtain ⟨D3, p3', hz3⟩ := Kd.R_slice hTR.r3; generalize t'.inn.length = d1 at hz1; generalize t'.l.length = d2 at hz2; generalize t'.lost.length = d3 at hz3; subst hz1 hz2 hz3; have htn' : t'.n = n := hTO.n.trans htn1; rw [htn']; have HTO := Lib.hid hTO; have HTR := Lib.hid hTR; have HG9 := Lib.hid g9; clear hTO hTR g9))
           have HW10 : Hid (Below W9.heap.size W9 (W9.alloc (.cells #[.int .i64 n, .slice D1 d1 p1', .slice D2 d2 p2', .slice D3 d3 p3'] 121))) := Lib.hid ((Below.refl _ _).alloc (Nat.le_refl _) _)
           have HT10 := Lib.hid (TB.new W9 n (.slice D1 d1 p1') (.slice D2 d2 p2') (.slice D3 d3 p3'))
           have HB10 := Lib.hid ((HB.out.below HG9.out).below HW10.out)
           have HTR10 : Hid (TR (W9.alloc (.cells #[.int .i64 n, .slice D1 d1 p1', .slice D2 d2 p2', .slice D3 d3 p3'] 121)) w.heap.size (fun k => some k ≠ (Value.slice (some ⟨g, 0, none⟩) n c).ownBlock) t' (.slice D1 d1 p1') (.slice D2 d2 p2') (.slice D3 d3 p3')) := Lib.hid ((TR.fresh HTR.out (fun k hk => Kd.R_lt HB.out.rr k hk) HB.out.bel.size).below HW10.out)
           have HB11 := Lib.hid (HB10.out.lay HTR10.out htn')
           have HII := Lib.hid (HST.out t' HTO.out)
           clear c0 c1 c2 c3 l0 HB HTR HG9
           generalize W9.alloc (.cells #[.int .i64 n, .slice D1 d1 p1', .slice D2 d2 p2', .slice D3 d3 p3'] 121) = W10 at *
           generalize W9.heap.size = gy at *
           obtain ⟨x0', x1', x2', x3', xl'⟩ := HT10.out.cells
           obtain ⟨t0', t1', t2', t3', tl'⟩ := HB10.out.tb.cells
           have tf : ∀ j, W10.frozen? ⟨gt, j, none⟩ = false := fun j => blk_frozen HB10.out.tb j
           clear HW10 HT10 HTR10 HB10
           unfold put4 at HB11
           go_wp2_with fail
           go_roundw
           case measure => simp [intOf]; omega
           case rel => exact ⟨r + 1, _, _, _, _, _, t', _, Hn, by go_num, by omega, HB11, HII⟩
    ·have HRN : Hid (r = n) := Lib.hid (by omega)
     rw [HRN.out] at HIr
     have hrl : n ≤ r := by omega
     obtain ⟨Y1, z1, hvr⟩ := Kd.R_slice HBq.out.rr
     obtain ⟨Y2, z2, hvw⟩ := Kd.R_slice HBq.out.rw
     generalize hy1 : rk.length = y1 at hvr
     generalize hy2 : H.length = y2 at hvw
     subst hvr hvw
     obtain ⟨k0, k1, kl, kf⟩ : wr.cell? ⟨gh, 0, none⟩ = some (.slice Y1 y1 z1) ∧ wr.cell? ⟨gh, 1, none⟩ = some (.slice Y2 y2 z2) ∧ gh < wr.heap.size ∧ ∀ j, wr.frozen? ⟨w.heap.size + 1, j, none⟩ = false := ⟨(blk_cell HBq.out.hb 0).trans rfl, (blk_cell HBq.out.hb 1).trans rfl, blk_lt HBq.out.hb, fun j => blk_frozen HBq.out.zb j⟩
     have z0' : wr.cell? ⟨w.heap.size + 1, 0, none⟩ = some (.slice none 0 0) := (blk_cell HBq.out.zb 0).trans rfl
     have z1' : wr.cell? ⟨w.heap.size + 1, 1, none⟩ = some (.slice none 0 0) := (blk_cell HBq.out.zb 1).trans rfl
     have zl := blk_lt HBq.out.zb
     have p0 := blk_put HBq.out.zb 0 (.slice Y1 y1 z1) (cs' := #[.slice Y1 y1 z1, .slice none 0 0]) rfl
     have p1 := blk_put p0 1 (.slice Y2 y2 z2) (cs' := #[.slice Y1 y1 z1, .slice Y2 y2 z2]) rfl
     have HP1 := Lib.hid p1
     have HRR := Lib.hid (Kd.R_set (Kd.R_set HBq.out.rr HBq.out.zb (by decide) 0 (.slice Y1 y1 z1)) p0 (by decide) 1 (.slice Y2 y2 z2))
     have HRW := Lib.hid (Kd.R_set (Kd.R_set HBq.out.rw HBq.out.zb (by decide) 0 (.slice Y1 y1 z1)) p0 (by decide) 1 (.slice Y2 y2 z2))
     have HBE := Lib.hid ((HBq.out.bel.setCell (p := ⟨w.heap.size + 1, 0, none⟩) (by simp) (.slice Y1 y1 z1)).setCell (p := ⟨w.heap.size + 1, 1, none⟩) (by simp) (.slice Y2 y2 z2))
     clear p0 p1
     go_wp2_with fail
     all_goals (try rw [Exit.noGoto_ret])
     all_goals (refine bodyPost_ret (results_cell_row rfl _ _ (w.heap.size + 1) 31 #[.slice Y1 y1 z1, .slice Y2 y2 z2] (0, 0) _ rfl HP1.out Tryz.underlying31 rfl (by kernel_rfl)) rfl ?_)
     all_goals exact ⟨_, _, t, rk, H, rfl, HIr.out, HRR.out, HRW.out, HBE.out⟩
end Go.Proofs.YtfkejflmhidnaaaGreat.PAll
