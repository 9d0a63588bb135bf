import Derived.Test.YtfkejflmhidnaaaGreatQZQtA
import Derived.Test.YtfkejflmhidnaaaGreatQPrA
import Derived.Test.YtfkejflmhidnaaaGreatQRcP
set_option linter.all false
namespace Go.Proofs.YtfkejflmhidnaaaGreat.PAll
open RowKit YtfkejflmhidnaaaGreatW.PrintWords YtfkejflmhidnaaaGreatW.PrintLast YtfkejflmhidnaaaGreatW.PrintMore
open Hp hiding Good
structure TabP where
 g : List Int
 far : List (List Int)
 out : List (List S37)
 inn : List (List S37)
 so : List (List Int)
 si : List (List Int)
def greatP (n : Nat) (h : HierP) (k : Int) : List Int := sortP (greatL n h.at' (clipP n k).toNat)
theorem greatP_len (n : Nat) (h : HierP) (k : Int) : (greatP n h k).length = (clipP n k).toNat := by unfold greatP; rw [sortP_len, greatL_len]
def subQ (n : Nat) (h : HierP) (v : Nat) (k : Int) (back : Bool) : List Int := (lowP n h v (lowAt n k) back).map (·.f0)
def buildT (n : Nat) (h : HierP) (k : Int) : TabP :=
 ⟨greatP n h k, tableP n h (greatP n h k) (greatP n h k), (List.range n).map (fun v => outP n h v (lowAt n k) false), (List.range n).map (fun v => outP n h v (lowAt n k) true), (List.range n).map (fun v => subQ n h v k false), (List.range n).map (fun v => subQ n h v k true)⟩
def rowsOf {α : Type} (f : Nat → α) (i : Nat) : List α := (List.range i).map f
theorem rowsOf_succ {α : Type} (f : Nat → α) (i : Nat) : rowsOf f (i + 1) = rowsOf f i ++ [f i] := by simp [rowsOf, List.range_succ]
theorem rowsOf_len {α : Type} (f : Nat → α) (i : Nat) : (rowsOf f i).length = i := by simp [rowsOf]
abbrev kII : Kd (List Int) := Kd.slice 3 (Kd.int .i64)
abbrev kRR : Kd (List S37) := Kd.slice 37 k37
theorem info33 : (Tryz.prog.info? 33).map (fun i => (i.zero, i.size, i.bytes)) = some (some (.slice none 0 0), 1, 24) := by kernel_rfl
structure TRw (w W : World) (vG vF vO vI vS vT : Value) (g : List Int) (far : List (List Int)) (o i : List (List S37)) (s t : List (List Int)) : Prop where
 bel : Below w.heap.size w W
 rG : Kd.R (Kd.int .i64) 3 W w.heap.size (fun _ => True) vG g
 rF : Kd.R kII 28 W w.heap.size (fun k => vS.ownBlock ≠ some k ∧ vT.ownBlock ≠ some k) vF far
 rO : Kd.R kRR 33 W w.heap.size (fun k => vI.ownBlock ≠ some k) vO o
 rI : Kd.R kRR 33 W w.heap.size (fun k => vO.ownBlock ≠ some k) vI i
 rS : Kd.R kII 28 W w.heap.size (fun k => vT.ownBlock ≠ some k) vS s
 rT : Kd.R kII 28 W w.heap.size (fun k => vS.ownBlock ≠ some k) vT t
theorem R_lt' {α : Type} {d : Kd α} {e : Nat} {w : World} {b : Nat} {ok : Nat → Prop} {v : Value} {xs : List α} (h : Kd.R d e w b ok v xs) (k : Nat) (hk : v.ownBlock = some k) : k < w.heap.size := Kd.R_lt h k hk
theorem R_typed {α : Type} {d : Kd α} {e : Nat} {w : World} {b : Nat} {ok : Nat → Prop} {v : Value} {xs : List α} (h : Kd.R d e w b ok v xs) (k : Nat) (hk : v.ownBlock = some k) : ∃ cells, w.heap[k]? = some (.cells cells e (0, 0)) := by
 obtain ⟨inner, ho⟩ := Kd.R_own h
 exact own_typed ho k hk
variable {w W w1 : World} {vG vF vO vI vS vT v1 : Value} {g : List Int} {far : List (List Int)} {o i o' : List (List S37)} {s t s' : List (List Int)}
theorem TRw.below (h : TRw w W vG vF vO vI vS vT g far o i s t) (b : Below W.heap.size W w1) : TRw w w1 vG vF vO vI vS vT g far o i s t :=
 ⟨h.bel.trans (b.mono h.bel.size), Kd.R_below h.rG b, Kd.R_below h.rF b, Kd.R_below h.rO b, Kd.R_below h.rI b, Kd.R_below h.rS b, Kd.R_below h.rT b⟩
theorem TRw.appO (h : TRw w W vG vF vO vI vS vT g far o i s t) (hR : Kd.R kRR 33 w1 w.heap.size (fun k => vI.ownBlock ≠ some k) v1 o') (hB : Below w.heap.size w w1) (hg : W.grownBy w1 vO.ownBlock) (hat : v1.ownBlock = vO.ownBlock ∨ ∃ b, v1.ownBlock = some b ∧ W.heap.size ≤ b) :
  TRw w w1 vG vF v1 vI vS vT g far o' i s t :=
 ⟨hB, Kd.R_over h.rG h.rO (by decide) hg, Kd.R_over h.rF h.rO (by decide) hg, hR, Kd.R_grown (Kd.R_mono (Kd.R_bound h.rI) (fun k hk => (⟨hk.1, fun e => by
   rcases hat with ha | ⟨b, hb, hge⟩
   ·rw [ha] at e; exact hk.1 e
   ·rw [hb] at e; cases e; have := hk.2.2.1; omega⟩ : vO.ownBlock ≠ some k ∧ v1.ownBlock ≠ some k))) hg (fun k hk e => hk.1 e.symm) |> fun r => Kd.R_mono r (fun k hk => hk.2), Kd.R_over h.rS h.rO (by decide) hg, Kd.R_over h.rT h.rO (by decide) hg⟩
theorem TRw.appI (h : TRw w W vG vF vO vI vS vT g far o i s t) (hR : Kd.R kRR 33 w1 w.heap.size (fun k => vO.ownBlock ≠ some k) v1 o') (hB : Below w.heap.size w w1) (hg : W.grownBy w1 vI.ownBlock) (hat : v1.ownBlock = vI.ownBlock ∨ ∃ b, v1.ownBlock = some b ∧ W.heap.size ≤ b) :
  TRw w w1 vG vF vO v1 vS vT g far o o' s t :=
 ⟨hB, Kd.R_over h.rG h.rI (by decide) hg, Kd.R_over h.rF h.rI (by decide) hg, Kd.R_grown (Kd.R_mono (Kd.R_bound h.rO) (fun k hk => (⟨hk.1, fun e => by
   rcases hat with ha | ⟨b, hb, hge⟩
   ·rw [ha] at e; exact hk.1 e
   ·rw [hb] at e; cases e; have := hk.2.2.1; omega⟩ : vI.ownBlock ≠ some k ∧ v1.ownBlock ≠ some k))) hg (fun k hk e => hk.1 e.symm) |> fun r => Kd.R_mono r (fun k hk => hk.2), hR, Kd.R_over h.rS h.rI (by decide) hg, Kd.R_over h.rT h.rI (by decide) hg⟩
theorem TRw.appS (h : TRw w W vG vF vO vI vS vT g far o i s t) (hR : Kd.R kII 28 w1 w.heap.size (fun k => vT.ownBlock ≠ some k) v1 s') (hB : Below w.heap.size w w1) (hg : W.grownBy w1 vS.ownBlock) (hat : v1.ownBlock = vS.ownBlock ∨ ∃ b, v1.ownBlock = some b ∧ W.heap.size ≤ b) :
  TRw w w1 vG vF vO vI v1 vT g far o i s' t :=
 ⟨hB, Kd.R_over h.rG h.rS (by decide) hg, Kd.R_grown (Kd.R_mono (Kd.R_bound h.rF) (fun k hk => (⟨hk.1.1, fun e => by
   rcases hat with ha | ⟨b, hb, hge⟩
   ·rw [ha] at e; exact hk.1.1 e
   ·rw [hb] at e; cases e; have := hk.2.2.1; omega, hk.1.2⟩ : vS.ownBlock ≠ some k ∧ v1.ownBlock ≠ some k ∧ vT.ownBlock ≠ some k))) hg (fun k hk e => hk.1 e.symm) |> fun r => Kd.R_mono r (fun k hk => hk.2),
  Kd.R_over h.rO h.rS (by decide) hg, Kd.R_over h.rI h.rS (by decide) hg, hR, Kd.R_grown (Kd.R_mono (Kd.R_bound h.rT) (fun k hk => (⟨hk.1, fun e => by
   rcases hat with ha | ⟨b, hb, hge⟩
   ·rw [ha] at e; exact hk.1 e
   ·rw [hb] at e; cases e; have := hk.2.2.1; omega⟩ : vS.ownBlock ≠ some k ∧ v1.ownBlock ≠ some k))) hg (fun k hk e => hk.1 e.symm) |> fun r => Kd.R_mono r (fun k hk => hk.2)⟩
theorem TRw.appT (h : TRw w W vG vF vO vI vS vT g far o i s t) (hR : Kd.R kII 28 w1 w.heap.size (fun k => vS.ownBlock ≠ some k) v1 s') (hB : Below w.heap.size w w1) (hg : W.grownBy w1 vT.ownBlock) (hat : v1.ownBlock = vT.ownBlock ∨ ∃ b, v1.ownBlock = some b ∧ W.heap.size ≤ b) :
  TRw w w1 vG vF vO vI vS v1 g far o i s s' :=
 ⟨hB, Kd.R_over h.rG h.rT (by decide) hg, Kd.R_grown (Kd.R_mono (Kd.R_bound h.rF) (fun k hk => (⟨hk.1.2, hk.1.1, fun e => by
   rcases hat with ha | ⟨b, hb, hge⟩
   ·rw [ha] at e; exact hk.1.2 e
   ·rw [hb] at e; cases e; have := hk.2.2.1; omega⟩ : vT.ownBlock ≠ some k ∧ vS.ownBlock ≠ some k ∧ v1.ownBlock ≠ some k))) hg (fun k hk e => hk.1 e.symm) |> fun r => Kd.R_mono r (fun k hk => hk.2),
  Kd.R_over h.rO h.rT (by decide) hg, Kd.R_over h.rI h.rT (by decide) hg, Kd.R_grown (Kd.R_mono (Kd.R_bound h.rS) (fun k hk => (⟨hk.1, fun e => by
   rcases hat with ha | ⟨b, hb, hge⟩
   ·rw [ha] at e; exact hk.1 e
   ·rw [hb] at e; cases e; have := hk.2.2.1; omega⟩ : vT.ownBlock ≠ some k ∧ v1.ownBlock ≠ some k))) hg (fun k hk e => hk.1 e.symm) |> fun r => Kd.R_mono r (fun k hk => hk.2), hR⟩
theorem TRw.set (h : TRw w W vG vF vO vI vS vT g far o i s t) {gt : Nat} {cells : Array Value} (hb : W.heap[gt]? = some (.cells cells 46 (0, 0))) (hge : w.heap.size ≤ gt) (j : Nat) (u : Value) : TRw w (W.setCell ⟨gt, j, none⟩ u) vG vF vO vI vS vT g far o i s t :=
 ⟨h.bel.setCell (p := ⟨gt, j, none⟩) hge u, Kd.R_set h.rG hb (by decide) j u, Kd.R_set h.rF hb (by decide) j u, Kd.R_set h.rO hb (by decide) j u, Kd.R_set h.rI hb (by decide) j u, Kd.R_set h.rS hb (by decide) j u, Kd.R_set h.rT hb (by decide) j u⟩
theorem TRw.set6 (h : TRw w W vG vF vO vI vS vT g far o i s t) {gt : Nat} {cells : Array Value} (hb : W.heap[gt]? = some (.cells cells 46 (0, 0))) (hge : w.heap.size ≤ gt) (a0 a1 a2 a3 a4 a5 : Value) :
  TRw w ((((((W.setCell ⟨gt, 0, none⟩ a0).setCell ⟨gt, 1, none⟩ a1).setCell ⟨gt, 2, none⟩ a2).setCell ⟨gt, 3, none⟩ a3).setCell ⟨gt, 4, none⟩ a4).setCell ⟨gt, 5, none⟩ a5) vG vF vO vI vS vT g far o i s t :=
 (((((h.set hb hge 0 a0).set (blk_set hb 0 a0) hge 1 a1).set (blk_set (blk_set hb 0 a0) 1 a1) hge 2 a2).set (blk_set (blk_set (blk_set hb 0 a0) 1 a1) 2 a2) hge 3 a3).set (blk_set (blk_set (blk_set (blk_set hb 0 a0) 1 a1) 2 a2) 3 a3) hge 4 a4).set (blk_set (blk_set (blk_set (blk_set (blk_set hb 0 a0) 1 a1) 2 a2) 3 a3) 4 a4) hge 5 a5
theorem box_grown {α : Type} {d : Kd α} {e : Nat} {b : Nat} {ok : Nat → Prop} {v : Value} {xs : List α} {gt : Nat} {cells : Array Value} (hb : W.heap[gt]? = some (.cells cells 46 (0, 0))) (hR : Kd.R d e W b ok v xs) (he : e ≠ 46) (hg : W.grownBy w1 v.ownBlock) : w1.heap[gt]? = some (.cells cells 46 (0, 0)) := by
 have hlt := blk_lt hb
 refine (hg.block gt hlt (fun e2 => ?_)).trans hb
 obtain ⟨c2, hc⟩ := R_typed hR gt e2.symm
 rw [hb] at hc
 simp only [Option.some.injEq, Obj.cells.injEq] at hc
 exact he hc.2.1.symm
def TabR (w : World) (base : Nat) (v : Value) (t : TabP) : Prop := ∃ vG vF vO vI vS vT, v = .agg #[vG, vF, vO, vI, vS, vT] ∧ Kd.R (Kd.int .i64) 3 w base (fun _ => True) vG t.g ∧ Kd.R kII 28 w base (fun _ => True) vF t.far ∧ Kd.R kRR 33 w base (fun _ => True) vO t.out ∧ Kd.R kRR 33 w base (fun _ => True) vI t.inn ∧ Kd.R kII 28 w base (fun _ => True) vS t.so ∧ Kd.R kII 28 w base (fun _ => True) vT t.si
theorem TRw.tab (h : TRw w W vG vF vO vI vS vT g far o i s t) : TabR W w.heap.size (.agg #[vG, vF, vO, vI, vS, vT]) ⟨g, far, o, i, s, t⟩ :=
 ⟨vG, vF, vO, vI, vS, vT, rfl, h.rG, Kd.R_mono h.rF (fun _ _ => trivial), Kd.R_mono h.rO (fun _ _ => trivial), Kd.R_mono h.rI (fun _ _ => trivial), Kd.R_mono h.rS (fun _ _ => trivial), Kd.R_mono h.rT (fun _ _ => trivial)⟩
end Go.Proofs.YtfkejflmhidnaaaGreat.PAll
namespace Go.Proofs.YtfkejflmhidnaaaGreat.PAll
open RowKit YtfkejflmhidnaaaGreatW.PrintWords YtfkejflmhidnaaaGreatW.PrintLast YtfkejflmhidnaaaGreatW.PrintMore
open Hp hiding Good
set_option maxRecDepth 100000 in
set_option maxHeartbeats 8000000 in
theorem tbuild_walk (w : World) (hb n : Nat) (h : HierP) (wm : Int) (H : HierRep w hb n h) (hok : HOk n wm h) (k : Int) :
  Calls Tryz.prog 20 #[.pointer (some ⟨hb, 0, none⟩), .int .i64 k] w fun r w' => ∃ v, r = .returned v ∧ TabR w' w.heap.size v (buildT n h k) ∧ Below w.heap.size w w' := by
 have hn9 := H.small
 obtain ⟨fO, hfO⟩ : ∃ fO : Nat → List S37, fO = fun v => outP n h v (lowAt n k) false := ⟨_, rfl⟩
 obtain ⟨fI, hfI⟩ : ∃ fI : Nat → List S37, fI = fun v => outP n h v (lowAt n k) true := ⟨_, rfl⟩
 obtain ⟨fS, hfS⟩ : ∃ fS : Nat → List Int, fS = fun v => subQ n h v k false := ⟨_, rfl⟩
 obtain ⟨fT, hfT⟩ : ∃ fT : Nat → List Int, fT = fun v => subQ n h v k true := ⟨_, rfl⟩
 have HOO : Hid (∀ W, Below w.heap.size w W → ∀ v : Nat, v < n → Calls Tryz.prog 14 #[.pointer (some ⟨hb, 0, none⟩), .int .i64 v, .int .i64 k, .bool false] W fun r w' => ∃ vr, r = .returned vr ∧ Kd.R k37 37 w' W.heap.size (fun _ => True) vr (fO v) ∧ Below W.heap.size W w') := Lib.hid (fun W g v hv => by rw [hfO]; exact of_walk W hb n h wm (H.below g) hok v hv k false)
 have HOI : Hid (∀ W, Below w.heap.size w W → ∀ v : Nat, v < n → Calls Tryz.prog 14 #[.pointer (some ⟨hb, 0, none⟩), .int .i64 v, .int .i64 k, .bool true] W fun r w' => ∃ vr, r = .returned vr ∧ Kd.R k37 37 w' W.heap.size (fun _ => True) vr (fI v) ∧ Below W.heap.size W w') := Lib.hid (fun W g v hv => by rw [hfI]; exact of_walk W hb n h wm (H.below g) hok v hv k true)
 have HSO : Hid (∀ W, Below w.heap.size w W → ∀ v : Nat, v < n → Calls Tryz.prog 18 #[.pointer (some ⟨hb, 0, none⟩), .int .i64 v, .int .i64 k, .bool false] W fun r w' => ∃ vr, r = .returned vr ∧ Kd.R (Kd.int .i64) 3 w' W.heap.size (fun _ => True) vr (fS v) ∧ Below W.heap.size W w') := Lib.hid (fun W g v hv => by rw [hfS]; exact sub_walk W hb n h wm (H.below g) hok v hv k false)
 have HSI : Hid (∀ W, Below w.heap.size w W → ∀ v : Nat, v < n → Calls Tryz.prog 18 #[.pointer (some ⟨hb, 0, none⟩), .int .i64 v, .int .i64 k, .bool true] W fun r w' => ∃ vr, r = .returned vr ∧ Kd.R (Kd.int .i64) 3 w' W.heap.size (fun _ => True) vr (fT v) ∧ Below W.heap.size W w') := Lib.hid (fun W g v hv => by rw [hfT]; exact sub_walk W hb n h wm (H.below g) hok v hv k true)
 have HB0 : Hid (Below w.heap.size w (w.alloc (.cells #[.slice none 0 0, .slice none 0 0, .slice none 0 0, .slice none 0 0, .slice none 0 0, .slice none 0 0] 46))) := Lib.hid ((Below.refl _ _).alloc (Nat.le_refl _) _)
 have HGR := Lib.hid (great_walk _ hb n h (H.below HB0.out) k)
 have hgl := greatP_len n h k
 have hcl := clipP_in n k
 have HTB : Hid (∀ W, Below w.heap.size w W → ∀ (A : Option Addr) (c : Nat), Kd.C (Kd.int .i64) W A (greatP n h k).length (greatP n h k) → Calls Tryz.prog 45 #[.pointer (some ⟨hb, 0, none⟩), .slice A (greatP n h k).length c, .slice A (greatP n h k).length c] W fun r w' => ∃ vr, r = .returned vr ∧ Kd.R kII 28 w' W.heap.size (fun _ => True) vr (tableP n h (greatP n h k) (greatP n h k)) ∧ Below W.heap.size W w') := Lib.hid (fun W g A c hC => table_walk W hb n h wm (H.below g) hok A A c c _ _ hC hC (by omega) (by omega))
 have HN : Hid (∀ W, Below w.heap.size w W → Calls Tryz.prog 46 #[.pointer (some ⟨hb, 0, none⟩)] W fun r w' => r = .returned (.int .i64 n) ∧ W = w') := Lib.hid (fun W g => n_walk W hb n h (H.below g))
 have HBT : Hid (buildT n h k = ⟨greatP n h k, tableP n h (greatP n h k) (greatP n h k), rowsOf fO n, rowsOf fI n, rowsOf fS n, rowsOf fT n⟩) := Lib.hid (by rw [hfO, hfI, hfS, hfT]; rfl)
 have HG0 : Hid (sortP (greatL n h.at' (clipP n k).toNat) = greatP n h k) := Lib.hid rfl
 have HBX0 := Lib.hid (blk_new w (.cells #[.slice none 0 0, .slice none 0 0, .slice none 0 0, .slice none 0 0, .slice none 0 0, .slice none 0 0] 46))
 rw [HG0.out, ← hgl] at HGR
 clear HG0
 generalize buildT n h k = TT at *
 generalize tableP n h (greatP n h k) (greatP n h k) = far at *
 clear H hok hfO hfI hfS hfT
 generalize greatP n h k = g at *
 obtain ⟨m, hm⟩ : ∃ m, g.length = m := ⟨_, rfl⟩
 rw [hm] at HGR HTB hgl
 have hm9 : m ≤ 900 := by omega
 clear hgl hcl
 go_enter Tryz.func20, Tryz.ntmps20
 go_wp2_with fail
 refine HGR.out.mono ?_
 rintro e W1 ⟨vr, rfl, hown, g1⟩
 have hR1 : Kd.R (Kd.int .i64) 3 W1 w.heap.size (fun _ => True) vr g := Kd.R_of_own (enc := fun x : Int => .int .i64 x) (by rw [hm]; exact own_weaken hown HB0.out.size) (fun k hk => trivial)
 obtain ⟨Ga, gc, hvr, hgc, hGC⟩ := Kd.R_reads hR1
 subst hvr
 rw [hm] at hGC hR1
 rw [hm]
 have HR1 := Lib.hid hR1
 have HGC := Lib.hid hGC
 have HB1 := Lib.hid (HB0.out.trans (g1.mono HB0.out.size))
 have HX1 : Hid (W1.heap[w.heap.size]? = some (.cells #[.slice none 0 0, .slice none 0 0, .slice none 0 0, .slice none 0 0, .slice none 0 0, .slice none 0 0] 46 (0, 0))) := Lib.hid ((g1.block _ (blk_lt HBX0.out)).trans HBX0.out)
 clear hown g1 hgc hGC hR1 HGR HB0 HBX0
 have HBT1 := Lib.hid (blk_new W1 (.cells #[.slice Ga m gc, .slice none 0 0, .slice none 0 0, .slice none 0 0, .slice none 0 0, .slice none 0 0] 46))
 have HG2 : Hid (Below W1.heap.size W1 (W1.alloc (.cells #[.slice Ga m gc, .slice none 0 0, .slice none 0 0, .slice none 0 0, .slice none 0 0, .slice none 0 0] 46))) := Lib.hid ((Below.refl _ _).alloc (Nat.le_refl _) _)
 go_upto_region 4 with fail
 generalize W1.alloc (.cells #[.slice Ga m gc, .slice none 0 0, .slice none 0 0, .slice none 0 0, .slice none 0 0, .slice none 0 0] 46) = W2 at *
 have hge : w.heap.size < W1.heap.size := blk_lt HX1.out
 generalize hgt : W1.heap.size = gt at *
 have HB2 : Hid (Below w.heap.size w W2) := Lib.hid (HB1.out.trans (HG2.out.mono (by omega)))
 have HX2 : Hid (W2.heap[w.heap.size]? = some (.cells #[.slice none 0 0, .slice none 0 0, .slice none 0 0, .slice none 0 0, .slice none 0 0, .slice none 0 0] 46 (0, 0))) := Lib.hid ((HG2.out.block _ hge).trans HX1.out)
 have HR2 := Lib.hid (Kd.R_below HR1.out (by rw [hgt]; exact HG2.out))
 have HTC := Lib.hid (HTB.out W2 HB2.out Ga gc (Kd.C_below HGC.out (by rw [hgt]; exact HG2.out)))
 have HGT := Lib.hid hge
 clear hgt hge HB1 HX1 HG2 HR1 HGC HTB
 have b0 := (blk_cell HBT1.out 0).trans rfl
 have b1 := (blk_cell HBT1.out 1).trans rfl
 have bl := blk_lt HBT1.out
 have bf := blk_frozen HBT1.out 1
 go_wp2_with fail
 refine HTC.out.mono ?_
 rintro e W3 ⟨vF, rfl, hRF, g3⟩
 obtain ⟨Fa, fc, hvF, hfc, hFC⟩ := Kd.R_reads hRF
 obtain ⟨nf, hnf⟩ : ∃ nf, far.length = nf := ⟨_, rfl⟩
 rw [hnf] at hvF
 subst hvF
 have HB3 := Lib.hid (HB2.out.trans (g3.mono HB2.out.size))
 have HX3 : Hid (W3.heap[w.heap.size]? = some (.cells #[.slice none 0 0, .slice none 0 0, .slice none 0 0, .slice none 0 0, .slice none 0 0, .slice none 0 0] 46 (0, 0))) := Lib.hid ((g3.block _ (blk_lt HX2.out)).trans HX2.out)
 have HBT3 : Hid (W3.heap[gt]? = some (.cells #[.slice Ga m gc, .slice none 0 0, .slice none 0 0, .slice none 0 0, .slice none 0 0, .slice none 0 0] 46 (0, 0))) := Lib.hid ((g3.block _ (blk_lt HBT1.out)).trans HBT1.out)
 have hF3 : Kd.R kII 28 W3 w.heap.size (fun k => (Value.slice none 0 0).ownBlock ≠ some k ∧ (Value.slice none 0 0).ownBlock ≠ some k) (.slice Fa nf fc) far := Kd.R_lower (Kd.R_mono hRF (fun k _ => ⟨(by intro e; cases e), (by intro e; cases e)⟩)) HB2.out.size
 have HT3 : Hid (TRw w W3 (.slice Ga m gc) (.slice Fa nf fc) (.slice none 0 0) (.slice none 0 0) (.slice none 0 0) (.slice none 0 0) g far (rowsOf fO 0) (rowsOf fI 0) (rowsOf fS 0) (rowsOf fT 0)) := Lib.hid
  ⟨HB3.out, Kd.R_below HR2.out g3, hF3, Kd.R_nil _ _ _ _ _, Kd.R_nil _ _ _ _ _, Kd.R_nil _ _ _ _ _, Kd.R_nil _ _ _ _ _⟩
 clear b0 b1 bl bf hRF hF3 g3 hfc hFC hnf HB2 HX2 HR2 HTC HBT1 HB3
 have HGE : Hid (w.heap.size ≤ gt) := Lib.hid (Nat.le_of_lt HGT.out)
 have HT4 := Lib.hid (HT3.out.set HBT3.out HGE.out 1 (.slice Fa nf fc))
 have HBT4 := Lib.hid (blk_put HBT3.out 1 (.slice Fa nf fc) rfl)
 have HX4 := Lib.hid (blk_far HX3.out (p := ⟨gt, 1, none⟩) (by have := HGT.out; show w.heap.size ≠ gt; omega) (.slice Fa nf fc))
 have b1 := (blk_cell HBT3.out 1).trans rfl
 have bl := blk_lt HBT3.out
 have bf := blk_frozen HBT3.out 1
 go_upto_region 5 with fail
 generalize W3.setCell ⟨gt, 1, none⟩ (.slice Fa nf fc) = W4 at *
 clear HT3 HBT3 HX3 b1 bl bf
 have HN4 := Lib.hid (HN.out W4 HT4.out.bel)
 go_wp2_with (first | (go_at_call 46; refine HN4.out.mono ?_; rintro e w' ⟨rfl, rfl⟩))
 go_loopw [23] (fun v23 wr => ∃ (v : Nat) (vO vI vS vT : Value), v23 = .int .i64 v ∧ v ≤ n ∧ Hid (TRw w wr (.slice Ga m gc) (.slice Fa nf fc) vO vI vS vT g far (rowsOf fO v) (rowsOf fI v) (rowsOf fS v) (rowsOf fT v)) ∧ Hid (wr.heap[gt]? = some (.cells #[.slice Ga m gc, .slice Fa nf fc, vO, vI, vS, vT] 46 (0, 0))) ∧
   Hid (wr.heap[w.heap.size]? = some (.cells #[.slice none 0 0, .slice none 0 0, .slice none 0 0, .slice none 0 0, .slice none 0 0, .slice none 0 0] 46 (0, 0)))) (fun v23 _ => n - (intOf v23).toNat)
 case atStart => exact ⟨0, _, _, _, _, rfl, by omega, HT4, HBT4, HX4⟩
 case round =>
  obtain ⟨v, vO, vI, vS, vT, rfl, hv, HT, HBT5, HX⟩ := hrel
  clear HT4 HBT4 HX4 HN4
  by_cases hlt : v < n
  ·have hv0 : (0 : Int) ≤ (v : Int) := Int.natCast_nonneg _
   have hv1 : (v : Int) < (n : Int) := by omega
   have hlO : (rowsOf fO v).length ≤ 900 := by rw [rowsOf_len]; omega
   have hlI : (rowsOf fI v).length ≤ 900 := by rw [rowsOf_len]; omega
   have hlS : (rowsOf fS v).length ≤ 900 := by rw [rowsOf_len]; omega
   have hlT : (rowsOf fT v).length ≤ 900 := by rw [rowsOf_len]; omega
   have HSU : Hid (rowsOf fO (v + 1) = rowsOf fO v ++ [fO v] ∧ rowsOf fI (v + 1) = rowsOf fI v ++ [fI v] ∧ rowsOf fS (v + 1) = rowsOf fS v ++ [fS v] ∧ rowsOf fT (v + 1) = rowsOf fT v ++ [fT v]) := Lib.hid ⟨rowsOf_succ _ _, rowsOf_succ _ _, rowsOf_succ _ _, rowsOf_succ _ _⟩
   have HOv := Lib.hid (fun W (g : Below w.heap.size w W) => HOO.out W g v hlt)
   have HIv := Lib.hid (fun W (g : Below w.heap.size w W) => HOI.out W g v hlt)
   have HSv := Lib.hid (fun W (g : Below w.heap.size w W) => HSO.out W g v hlt)
   have HTv := Lib.hid (fun W (g : Below w.heap.size w W) => HSI.out W g v hlt)
   generalize fO v = xO at *
   generalize fI v = xI at *
   generalize fS v = xS at *
   generalize fT v = xT at *
   generalize rowsOf fO v = oO at *
   generalize rowsOf fI v = oI at *
   generalize rowsOf fS v = oS at *
   generalize rowsOf fT v = oT at *
   have HT0 : Hid (TRw w wr.drew (.slice Ga m gc) (.slice Fa nf fc) vO vI vS vT g far oO oI oS oT) := Lib.hid (HT.out.below (Below.refl _ _).drew)
   have HBX0 : Hid (wr.drew.heap[gt]? = some (.cells #[.slice Ga m gc, .slice Fa nf fc, vO, vI, vS, vT] 46 (0, 0))) := Lib.hid HBT5.out
   have HXX0 : Hid (wr.drew.heap[w.heap.size]? = some (.cells #[.slice none 0 0, .slice none 0 0, .slice none 0 0, .slice none 0 0, .slice none 0 0, .slice none 0 0] 46 (0, 0))) := Lib.hid HX.out
   have c2 : wr.cell? ⟨gt, 2, none⟩ = some vO := (blk_cell HBT5.out 2).trans rfl
   have c3 : wr.cell? ⟨gt, 3, none⟩ = some vI := (blk_cell HBT5.out 3).trans rfl
   clear HT HBT5 HX
   go_upto_region 8 with fail
   refine start_ (n := 20) (S := fun w' => w'.cell? ⟨gt, 2, none⟩ = some vO ∧ w'.cell? ⟨gt, 3, none⟩ = some vI) (ds := [17, 19]) (bA_ 20 0) (by kernel_rfl) rfl rfl ⟨c2, c3⟩ (fun hHeld => ?_)
   refine p2_ 0 26 (bA_ 20 1) ?_
   refine p2_ 2 28 (bA_ 20 5) ?_
   refine p2_ 3 29 (bA_ 20 13) ?_
   refine p2_ 4 30 (bA_ 20 29) ?_
   refine p2_ 8 34 (bA_ 20 285) ?_
   refine p2_ 10 36 (bA_ 20 1309) ?_
   refine p2_ 11 37 (bA_ 20 3357) ?_
   refine p2_ 12 38 (bA_ 20 7453) ?_
   refine t2_ 1 27 (bA_ 20 7455) hHeld ?_ (hy := by rintro w' ⟨s0, s1⟩; go_simp; with_reducible rfl)
   refine t2_ 9 35 (bA_ 20 7967) hHeld ?_ (hy := by rintro w' ⟨s0, s1⟩; go_simp; with_reducible rfl)
   refine o2_ 5 31 (bA_ 20 7999) (fun K hK => ?_)
   refine g2_ Tryz.func14 #[.pointer (some ⟨hb, 0, none⟩), .int .i64 v, .int .i64 k, .bool false] ?_
   with_reducible refine (HOv.out _ HT0.out.bel).mono ?_
   rintro e w1 ⟨v1, rfl, hR, g1⟩
   refine ⟨_, rfl, ?_⟩
   have HT1 := Lib.hid (HT0.out.below g1)
   have HBX1 := Lib.hid ((g1.block _ (blk_lt HBX0.out)).trans HBX0.out)
   have HXX1 := Lib.hid ((g1.block _ (blk_lt HXX0.out)).trans HXX0.out)
   obtain ⟨A1, k1, hv1, hk1, _⟩ := Kd.R_reads hR
   subst hv1
   have HP1 : Hid (Kd.R k37 37 w1 w.heap.size (fun k => wr.drew.heap.size ≤ k) (.slice A1 xO.length k1) xO) := Lib.hid (Kd.R_lower (Kd.R_mono (Kd.R_bound hR) (fun k hk => hk.2.1)) HT0.out.bel.size)
   clear hR g1 hk1
   refine hK.out _ _ ⟨((blk_cell HBX1.out 2).trans rfl), ((blk_cell HBX1.out 3).trans rfl)⟩ (fun hHeld => ?_)
   clear hK K
   refine n2_ 31 ?_
   refine o2_ 6 32 (bA_ 20 8063) (fun K hK => ?_)
   refine value_ (w1 := ?_) (v := ?_) (by rfl) rfl ?_ ?_
   rotate_left 2
   ·go_simp
    constructor
    ·rfl
    ·rfl
   refine hK.out _ _ ⟨(cellAllocZ ((blk_cell HBX1.out 2).trans rfl)), (cellAllocZ ((blk_cell HBX1.out 3).trans rfl))⟩ (fun hHeld => ?_)
   clear hK K
   refine n2_ 32 ?_
   refine o2_ 7 33 (bA_ 20 8191) (fun K hK => ?_)
   refine Kd.R_append_step kRR (w0 := w) (W := w1) w.heap.size (by rfl) (.tmp 27) (.tmp 32) 44 33 (.slice none 0 0) 24 rfl Tryz.underlying44 info33 rfl (by decide) (by omega) vO oO xO [.slice A1 xO.length k1] (fun k => vI.ownBlock ≠ some k) (fun k => wr.drew.heap.size ≤ k) rfl rfl ⟨_, rfl, HP1.out⟩ (fun k hk => ⟨fun e => by have := R_lt' HT0.out.rI k e; omega, fun e => by have := R_lt' HT0.out.rO k e.symm; omega⟩) (fun k hk e => by have := R_lt' HT1.out.rI k e; omega) HT1.out.rO HT1.out.bel HT1.out.bel.size (by omega) ?_
   intro q w2 hR hB hG hat
   obtain ⟨q2A, q2C, hq⟩ := Kd.R_slice hR
   generalize hqm : (oO ++ [xO]).length = q2M at hq
   subst hq
   clear hqm
   have HT2 := Lib.hid (HT1.out.appO hR hB hG hat)
   have HBX2 := Lib.hid (box_grown HBX1.out HT1.out.rO (by decide) hG)
   have HXX2 := Lib.hid (box_grown HXX1.out HT1.out.rO (by decide) hG)
   clear hR hB hG hat
   refine hK.out _ _ ⟨((blk_cell HBX2.out 2).trans rfl), ((blk_cell HBX2.out 3).trans rfl)⟩ (fun hHeld => ?_)
   clear hK K
   refine n2_ 33 ?_
   refine p2_ 16 42 (bA_ 20 73727) ?_
   refine o2_ 13 39 (bA_ 20 81919) (fun K hK => ?_)
   refine g2_ Tryz.func14 #[.pointer (some ⟨hb, 0, none⟩), .int .i64 v, .int .i64 k, .bool true] ?_
   with_reducible refine (HIv.out _ HT2.out.bel).mono ?_
   rintro e w3 ⟨v3, rfl, hR, g3⟩
   refine ⟨_, rfl, ?_⟩
   have HT3 := Lib.hid (HT2.out.below g3)
   have HBX3 := Lib.hid ((g3.block _ (blk_lt HBX2.out)).trans HBX2.out)
   have HXX3 := Lib.hid ((g3.block _ (blk_lt HXX2.out)).trans HXX2.out)
   obtain ⟨A3, k3, hv3, hk3, _⟩ := Kd.R_reads hR
   subst hv3
   have HP3 : Hid (Kd.R k37 37 w3 w.heap.size (fun k => w2.heap.size ≤ k) (.slice A3 xI.length k3) xI) := Lib.hid (Kd.R_lower (Kd.R_mono (Kd.R_bound hR) (fun k hk => hk.2.1)) HT2.out.bel.size)
   clear hR g3 hk3
   refine hK.out _ _ ⟨((blk_cell HBX3.out 2).trans rfl), ((blk_cell HBX3.out 3).trans rfl)⟩ (fun hHeld => ?_)
   clear hK K
   refine n2_ 39 ?_
   refine o2_ 14 40 (bA_ 20 98303) (fun K hK => ?_)
   refine value_ (w1 := ?_) (v := ?_) (by rfl) rfl ?_ ?_
   rotate_left 2
   ·go_simp
    constructor
    ·rfl
    ·rfl
   refine hK.out _ _ ⟨(cellAllocZ ((blk_cell HBX3.out 2).trans rfl)), (cellAllocZ ((blk_cell HBX3.out 3).trans rfl))⟩ (fun hHeld => ?_)
   clear hK K
   refine n2_ 40 ?_
   refine o2_ 15 41 (bA_ 20 131071) (fun K hK => ?_)
   refine Kd.R_append_step kRR (w0 := w) (W := w3) w.heap.size (by rfl) (.tmp 35) (.tmp 40) 44 33 (.slice none 0 0) 24 rfl Tryz.underlying44 info33 rfl (by decide) (by omega) vI oI xI [.slice A3 xI.length k3] (fun k => (Value.slice q2A q2M q2C).ownBlock ≠ some k) (fun k => w2.heap.size ≤ k) rfl rfl ⟨_, rfl, HP3.out⟩ (fun k hk => ⟨fun e => by have := R_lt' HT2.out.rO k e; omega, fun e => by have := R_lt' HT2.out.rI k e.symm; omega⟩) (fun k hk e => by have := R_lt' HT3.out.rO k e; omega) HT3.out.rI HT3.out.bel HT3.out.bel.size (by omega) ?_
   intro q w4 hR hB hG hat
   obtain ⟨q4A, q4C, hq⟩ := Kd.R_slice hR
   generalize hqm : (oI ++ [xI]).length = q4M at hq
   subst hq
   clear hqm
   have HT4 := Lib.hid (HT3.out.appI hR hB hG hat)
   have HBX4 := Lib.hid (box_grown HBX3.out HT3.out.rI (by decide) hG)
   have HXX4 := Lib.hid (box_grown HXX3.out HT3.out.rI (by decide) hG)
   clear hR hB hG hat
   have xf : ∀ j, w4.frozen? ⟨gt, j, none⟩ = false := fun j => blk_frozen HBX4.out j
   have xl := blk_lt HBX4.out
   have x2c : w4.cell? ⟨gt, 2, none⟩ = some vO := (blk_cell HBX4.out 2).trans rfl
   have x3c : w4.cell? ⟨gt, 3, none⟩ = some vI := (blk_cell HBX4.out 3).trans rfl
   refine hK.out _ _ ⟨((blk_cell HBX4.out 2).trans rfl), ((blk_cell HBX4.out 3).trans rfl)⟩ (fun hHeld => ?_)
   clear hK K
   refine n2_ 41 ?_
   refine last_ (i := 17) (N := none) (bA_ 20 262143) rfl rfl (by kernel_rfl) (by decide) (fun K hK => ?_)
   refine skip_ (w1 := ?_) (by rfl) rfl ?_ ?_
   rotate_left
   ·go_simp
    rfl
   refine hK.out _ _ ?_
   clear hK K
   refine p2_ 18 43 (bA_ 20 524287) ?_
   refine last_ (i := 19) (N := none) (bA_ 20 1048575) rfl rfl (by kernel_rfl) (by decide) (fun K hK => ?_)
   refine skip_ (w1 := ?_) (by rfl) rfl ?_ ?_
   rotate_left
   ·go_simp
    rfl
   refine hK.out _ _ ?_
   clear hK K
   refine done_ (by kernel_rfl) ?_
   have HT6 := Lib.hid ((HT4.out.set HBX4.out HGE.out 2 (.slice q2A q2M q2C)).set (blk_put HBX4.out 2 (.slice q2A q2M q2C) rfl) HGE.out 3 (.slice q4A q4M q4C))
   have HBX6 := Lib.hid (blk_put (blk_put HBX4.out 2 (.slice q2A q2M q2C) rfl) 3 (.slice q4A q4M q4C) rfl)
   have HXX6 := Lib.hid (blk_far (blk_far HXX4.out (p := ⟨gt, 2, none⟩) (by have := HGT.out; show w.heap.size ≠ gt; omega) (.slice q2A q2M q2C)) (p := ⟨gt, 3, none⟩) (by have := HGT.out; show w.heap.size ≠ gt; omega) (.slice q4A q4M q4C))
   generalize (w4.setCell ⟨gt, 2, none⟩ (.slice q2A q2M q2C)).setCell ⟨gt, 3, none⟩ (.slice q4A q4M q4C) = WR at *
   clear HT0 HBX0 HXX0 HT1 HBX1 HXX1 HT2 HBX2 HXX2 HT3 HBX3 HXX3 HT4 HBX4 HXX4 hHeld c2 c3 xf xl
   have HT0 : Hid (TRw w WR.drew (.slice Ga m gc) (.slice Fa nf fc) (.slice q2A q2M q2C) (.slice q4A q4M q4C) vS vT g far (oO ++ [xO]) (oI ++ [xI]) oS oT) := Lib.hid (HT6.out.below (Below.refl _ _).drew)
   have HBX0 : Hid (WR.drew.heap[gt]? = some (.cells #[.slice Ga m gc, .slice Fa nf fc, (.slice q2A q2M q2C), (.slice q4A q4M q4C), vS, vT] 46 (0, 0))) := Lib.hid HBX6.out
   have HXX0 : Hid (WR.drew.heap[w.heap.size]? = some (.cells #[.slice none 0 0, .slice none 0 0, .slice none 0 0, .slice none 0 0, .slice none 0 0, .slice none 0 0] 46 (0, 0))) := Lib.hid HXX6.out
   have c2 : WR.cell? ⟨gt, 4, none⟩ = some vS := (blk_cell HBX6.out 4).trans rfl
   have c3 : WR.cell? ⟨gt, 5, none⟩ = some vT := (blk_cell HBX6.out 5).trans rfl
   clear HT6 HBX6 HXX6
   go_upto_region 9 with fail
   refine start_ (n := 20) (S := fun w' => w'.cell? ⟨gt, 4, none⟩ = some vS ∧ w'.cell? ⟨gt, 5, none⟩ = some vT) (ds := [17, 19]) (bA_ 20 0) (by kernel_rfl) rfl rfl ⟨c2, c3⟩ (fun hHeld => ?_)
   refine p2_ 0 44 (bA_ 20 1) ?_
   refine p2_ 2 46 (bA_ 20 5) ?_
   refine p2_ 3 47 (bA_ 20 13) ?_
   refine p2_ 4 48 (bA_ 20 29) ?_
   refine p2_ 8 52 (bA_ 20 285) ?_
   refine p2_ 10 54 (bA_ 20 1309) ?_
   refine p2_ 11 55 (bA_ 20 3357) ?_
   refine p2_ 12 56 (bA_ 20 7453) ?_
   refine t2_ 1 45 (bA_ 20 7455) hHeld ?_ (hy := by rintro w' ⟨s0, s1⟩; go_simp; with_reducible rfl)
   refine t2_ 9 53 (bA_ 20 7967) hHeld ?_ (hy := by rintro w' ⟨s0, s1⟩; go_simp; with_reducible rfl)
   refine o2_ 5 49 (bA_ 20 7999) (fun K hK => ?_)
   refine g2_ Tryz.func18 #[.pointer (some ⟨hb, 0, none⟩), .int .i64 v, .int .i64 k, .bool false] ?_
   with_reducible refine (HSv.out _ HT0.out.bel).mono ?_
   rintro e w1 ⟨v1, rfl, hR, g1⟩
   refine ⟨_, rfl, ?_⟩
   have HT1 := Lib.hid (HT0.out.below g1)
   have HBX1 := Lib.hid ((g1.block _ (blk_lt HBX0.out)).trans HBX0.out)
   have HXX1 := Lib.hid ((g1.block _ (blk_lt HXX0.out)).trans HXX0.out)
   obtain ⟨A1, k1, hv1, hk1, _⟩ := Kd.R_reads hR
   subst hv1
   have HP1 : Hid (Kd.R (Kd.int .i64) 3 w1 w.heap.size (fun k => WR.drew.heap.size ≤ k) (.slice A1 xS.length k1) xS) := Lib.hid (Kd.R_lower (Kd.R_mono (Kd.R_bound hR) (fun k hk => hk.2.1)) HT0.out.bel.size)
   clear hR g1 hk1
   refine hK.out _ _ ⟨((blk_cell HBX1.out 4).trans rfl), ((blk_cell HBX1.out 5).trans rfl)⟩ (fun hHeld => ?_)
   clear hK K
   refine n2_ 49 ?_
   refine o2_ 6 50 (bA_ 20 8063) (fun K hK => ?_)
   refine value_ (w1 := ?_) (v := ?_) (by rfl) rfl ?_ ?_
   rotate_left 2
   ·go_simp
    constructor
    ·rfl
    ·rfl
   refine hK.out _ _ ⟨(cellAllocZ ((blk_cell HBX1.out 4).trans rfl)), (cellAllocZ ((blk_cell HBX1.out 5).trans rfl))⟩ (fun hHeld => ?_)
   clear hK K
   refine n2_ 50 ?_
   refine o2_ 7 51 (bA_ 20 8191) (fun K hK => ?_)
   refine Kd.R_append_step kII (w0 := w) (W := w1) w.heap.size (by rfl) (.tmp 45) (.tmp 50) 38 28 (.slice none 0 0) 24 rfl Tryz.underlying38 info28 rfl (by decide) (by omega) vS oS xS [.slice A1 xS.length k1] (fun k => vT.ownBlock ≠ some k) (fun k => WR.drew.heap.size ≤ k) rfl rfl ⟨_, rfl, HP1.out⟩ (fun k hk => ⟨fun e => by have := R_lt' HT0.out.rT k e; omega, fun e => by have := R_lt' HT0.out.rS k e.symm; omega⟩) (fun k hk e => by have := R_lt' HT1.out.rT k e; omega) HT1.out.rS HT1.out.bel HT1.out.bel.size (by omega) ?_
   intro q w2 hR hB hG hat
   obtain ⟨p2A, p2C, hq⟩ := Kd.R_slice hR
   generalize hqm : (oS ++ [xS]).length = p2M at hq
   subst hq
   clear hqm
   have HT2 := Lib.hid (HT1.out.appS hR hB hG hat)
   have HBX2 := Lib.hid (box_grown HBX1.out HT1.out.rS (by decide) hG)
   have HXX2 := Lib.hid (box_grown HXX1.out HT1.out.rS (by decide) hG)
   clear hR hB hG hat
   refine hK.out _ _ ⟨((blk_cell HBX2.out 4).trans rfl), ((blk_cell HBX2.out 5).trans rfl)⟩ (fun hHeld => ?_)
   clear hK K
   refine n2_ 51 ?_
   refine p2_ 16 60 (bA_ 20 73727) ?_
   refine o2_ 13 57 (bA_ 20 81919) (fun K hK => ?_)
   refine g2_ Tryz.func18 #[.pointer (some ⟨hb, 0, none⟩), .int .i64 v, .int .i64 k, .bool true] ?_
   with_reducible refine (HTv.out _ HT2.out.bel).mono ?_
   rintro e w3 ⟨v3, rfl, hR, g3⟩
   refine ⟨_, rfl, ?_⟩
   have HT3 := Lib.hid (HT2.out.below g3)
   have HBX3 := Lib.hid ((g3.block _ (blk_lt HBX2.out)).trans HBX2.out)
   have HXX3 := Lib.hid ((g3.block _ (blk_lt HXX2.out)).trans HXX2.out)
   obtain ⟨A3, k3, hv3, hk3, _⟩ := Kd.R_reads hR
   subst hv3
   have HP3 : Hid (Kd.R (Kd.int .i64) 3 w3 w.heap.size (fun k => w2.heap.size ≤ k) (.slice A3 xT.length k3) xT) := Lib.hid (Kd.R_lower (Kd.R_mono (Kd.R_bound hR) (fun k hk => hk.2.1)) HT2.out.bel.size)
   clear hR g3 hk3
   refine hK.out _ _ ⟨((blk_cell HBX3.out 4).trans rfl), ((blk_cell HBX3.out 5).trans rfl)⟩ (fun hHeld => ?_)
   clear hK K
   refine n2_ 57 ?_
   refine o2_ 14 58 (bA_ 20 98303) (fun K hK => ?_)
   refine value_ (w1 := ?_) (v := ?_) (by rfl) rfl ?_ ?_
   rotate_left 2
   ·go_simp
    constructor
    ·rfl
    ·rfl
   refine hK.out _ _ ⟨(cellAllocZ ((blk_cell HBX3.out 4).trans rfl)), (cellAllocZ ((blk_cell HBX3.out 5).trans rfl))⟩ (fun hHeld => ?_)
   clear hK K
   refine n2_ 58 ?_
   refine o2_ 15 59 (bA_ 20 131071) (fun K hK => ?_)
   refine Kd.R_append_step kII (w0 := w) (W := w3) w.heap.size (by rfl) (.tmp 53) (.tmp 58) 38 28 (.slice none 0 0) 24 rfl Tryz.underlying38 info28 rfl (by decide) (by omega) vT oT xT [.slice A3 xT.length k3] (fun k => (Value.slice p2A p2M p2C).ownBlock ≠ some k) (fun k => w2.heap.size ≤ k) rfl rfl ⟨_, rfl, HP3.out⟩ (fun k hk => ⟨fun e => by have := R_lt' HT2.out.rS k e; omega, fun e => by have := R_lt' HT2.out.rT k e.symm; omega⟩) (fun k hk e => by have := R_lt' HT3.out.rS k e; omega) HT3.out.rT HT3.out.bel HT3.out.bel.size (by omega) ?_
   intro q w4 hR hB hG hat
   obtain ⟨p4A, p4C, hq⟩ := Kd.R_slice hR
   generalize hqm : (oT ++ [xT]).length = p4M at hq
   subst hq
   clear hqm
   have HT4 := Lib.hid (HT3.out.appT hR hB hG hat)
   have HBX4 := Lib.hid (box_grown HBX3.out HT3.out.rT (by decide) hG)
   have HXX4 := Lib.hid (box_grown HXX3.out HT3.out.rT (by decide) hG)
   clear hR hB hG hat
   have xf : ∀ j, w4.frozen? ⟨gt, j, none⟩ = false := fun j => blk_frozen HBX4.out j
   have xl := blk_lt HBX4.out
   have x2c : w4.cell? ⟨gt, 4, none⟩ = some vS := (blk_cell HBX4.out 4).trans rfl
   have x3c : w4.cell? ⟨gt, 5, none⟩ = some vT := (blk_cell HBX4.out 5).trans rfl
   refine hK.out _ _ ⟨((blk_cell HBX4.out 4).trans rfl), ((blk_cell HBX4.out 5).trans rfl)⟩ (fun hHeld => ?_)
   clear hK K
   refine n2_ 59 ?_
   refine last_ (i := 17) (N := none) (bA_ 20 262143) rfl rfl (by kernel_rfl) (by decide) (fun K hK => ?_)
   refine skip_ (w1 := ?_) (by rfl) rfl ?_ ?_
   rotate_left
   ·go_simp
    rfl
   refine hK.out _ _ ?_
   clear hK K
   refine p2_ 18 61 (bA_ 20 524287) ?_
   refine last_ (i := 19) (N := none) (bA_ 20 1048575) rfl rfl (by kernel_rfl) (by decide) (fun K hK => ?_)
   refine skip_ (w1 := ?_) (by rfl) rfl ?_ ?_
   rotate_left
   ·go_simp
    rfl
   refine hK.out _ _ ?_
   clear hK K
   refine done_ (by kernel_rfl) ?_
   have HT6 := Lib.hid ((HT4.out.set HBX4.out HGE.out 4 (.slice p2A p2M p2C)).set (blk_put HBX4.out 4 (.slice p2A p2M p2C) rfl) HGE.out 5 (.slice p4A p4M p4C))
   have HBX6 := Lib.hid (blk_put (blk_put HBX4.out 4 (.slice p2A p2M p2C) rfl) 5 (.slice p4A p4M p4C) rfl)
   have HXX6 := Lib.hid (blk_far (blk_far HXX4.out (p := ⟨gt, 4, none⟩) (by have := HGT.out; show w.heap.size ≠ gt; omega) (.slice p2A p2M p2C)) (p := ⟨gt, 5, none⟩) (by have := HGT.out; show w.heap.size ≠ gt; omega) (.slice p4A p4M p4C))
   clear HT0 HBX0 HXX0 HT1 HBX1 HXX1 HT2 HBX2 HXX2 HT3 HBX3 HXX3 HT4 HBX4 HXX4 hHeld c2 c3
   generalize (w4.setCell ⟨gt, 4, none⟩ (.slice p2A p2M p2C)).setCell ⟨gt, 5, none⟩ (.slice p4A p4M p4C) = WS at *
   go_wp2_with fail
   go_roundw
   case measure => simp [intOf]; omega
   case rel => exact ⟨v + 1, (.slice q2A q2M q2C), (.slice q4A q4M q4C), (.slice p2A p2M p2C), (.slice p4A p4M p4C), by go_num, by omega, Lib.hid (by rw [HSU.out.1, HSU.out.2.1, HSU.out.2.2.1, HSU.out.2.2.2]; exact HT6.out), HBX6, HXX6⟩
  ·have HVE : Hid (v = n) := Lib.hid (by omega)
   have hvl : n ≤ v := by omega
   obtain ⟨OA, OC, hvO⟩ := Kd.R_slice HT.out.rO
   generalize (rowsOf fO v).length = OM at hvO
   obtain ⟨IA, IC, hvI⟩ := Kd.R_slice HT.out.rI
   generalize (rowsOf fI v).length = IM at hvI
   obtain ⟨SA, SC, hvS⟩ := Kd.R_slice HT.out.rS
   generalize (rowsOf fS v).length = SM at hvS
   obtain ⟨TA, TC, hvT⟩ := Kd.R_slice HT.out.rT
   generalize (rowsOf fT v).length = TM at hvT
   subst hvO hvI hvS hvT
   have c0 := (blk_cell HBT5.out 0).trans rfl
   have c1 := (blk_cell HBT5.out 1).trans rfl
   have c2 := (blk_cell HBT5.out 2).trans rfl
   have c3 := (blk_cell HBT5.out 3).trans rfl
   have c4 := (blk_cell HBT5.out 4).trans rfl
   have c5 := (blk_cell HBT5.out 5).trans rfl
   have cl := blk_lt HBT5.out
   have d0 := (blk_cell HX.out 0).trans rfl
   have d1 := (blk_cell HX.out 1).trans rfl
   have d2 := (blk_cell HX.out 2).trans rfl
   have d3 := (blk_cell HX.out 3).trans rfl
   have d4 := (blk_cell HX.out 4).trans rfl
   have d5 := (blk_cell HX.out 5).trans rfl
   have dl := blk_lt HX.out
   have df : ∀ j, wr.frozen? ⟨w.heap.size, j, none⟩ = false := fun j => blk_frozen HX.out j
   rw [HVE.out] at HT
   have HT6 := Lib.hid (HT.out.set6 HX.out (Nat.le_refl _) (.slice Ga m gc) (.slice Fa nf fc) (.slice OA OM OC) (.slice IA IM IC) (.slice SA SM SC) (.slice TA TM TC))
   have HP6 := Lib.hid (blk_put (blk_put (blk_put (blk_put (blk_put (blk_put HX.out 0 (.slice Ga m gc) rfl) 1 (.slice Fa nf fc) rfl) 2 (.slice OA OM OC) rfl) 3 (.slice IA IM IC) rfl) 4 (.slice SA SM SC) rfl) 5 (.slice TA TM TC) rfl)
   go_wp2_with fail
   all_goals (try rw [Exit.noGoto_ret])
   all_goals (refine bodyPost_ret (results_cell_row rfl _ _ w.heap.size 46 #[.slice Ga m gc, .slice Fa nf fc, .slice OA OM OC, .slice IA IM IC, .slice SA SM SC, .slice TA TM TC] (0, 0) _ rfl HP6.out Tryz.underlying46 rfl (by kernel_rfl)) rfl ?_)
   all_goals exact ⟨_, rfl, by rw [HBT.out]; exact HT6.out.tab, HT6.out.bel⟩
end Go.Proofs.YtfkejflmhidnaaaGreat.PAll
