import Derived.Test.YtegikndkokemjaaDoorRd3
import Derived.Test.YtegikndkokemjaaDoorSplit
namespace Go.Proofs.YtegikndkokemjaaDoor.PAll
open Go.RowKit Go.Proofs.YtegikndkokemjaaDoorW.PrintWords Go.Proofs.YtegikndkokemjaaDoorW.PrintLast Go.Proofs.YtegikndkokemjaaDoorW.PrintMore
open GrFn
set_option linter.unusedVariables false
set_option linter.unusedSimpArgs false

theorem numbers_three {ws : List (List UInt8)} {m1 m2 m3 a b c : Int} (h : numbers ws [m1, m2, m3] = some [a, b, c]) : (0 ≤ a ∧ a ≤ m1) ∧ (0 ≤ b ∧ b ≤ m2) := by
  match ws, h with
  | [], h => cases h
  | x :: r, h =>
    rw [numbers_cons] at h
    cases hx : number x m1 with
    | none => rw [hx] at h; cases h
    | some n1 =>
      rw [hx] at h
      cases hr : numbers r [m2, m3] with
      | none => rw [hr] at h; cases h
      | some l =>
        rw [hr] at h
        have hl : n1 :: l = [a, b, c] := Option.some.inj h
        injection hl with h1 h2
        subst h1 h2
        exact ⟨number_bound hx, (numbers_two hr).1⟩

theorem arc_any (t : St) (A : Option Addr) (c : Nat) (ws : List ByteArray) (B0 rb : Nat) (v : Value) (w : World) (h : Rdr w B0 rb v t) (hB0 : B0 ≤ w.heap.size) (hw : Kd.C Kd.string w A ws.length ws) (hg : ws.length ≤ c) :
    Calls Tryd.prog 36 #[.pointer (some ⟨rb, 0, none⟩), .slice A ws.length c] w fun e w' => StepTo w B0 rb v t (GrFn.arc t (ws.map bytes)) e w' := by
  have same : ∀ {e w'}, (e = .returned (.bool false) ∧ Below w.heap.size w w') → StepTo w B0 rb v t none e w' := by
    rintro e w' ⟨rfl, hb⟩
    exact step_same h hb
  cases hn : numbers (ws.map bytes) [t.n, t.n, 2147483648] with
  | none =>
    have : GrFn.arc t (ws.map bytes) = none := by unfold GrFn.arc; rw [hn]
    rw [this]
    exact (arc_no1 t A c ws B0 rb v w h hw hg hn).mono fun _ _ => same
  | some l =>
    have hl := numbers_length hn
    match l, hl with
    | [x, y, z], _ =>
      have hs : GrFn.arc t (ws.map bytes) = if x = 0 ∨ y = 0 ∨ (t.arcs.length : Int) ≥ t.many then none else some { t with arcs := t.arcs ++ [⟨x - 1, y - 1, z⟩] } := by
        unfold GrFn.arc
        rw [hn]
      rw [hs]
      obtain ⟨⟨hx0, hx1⟩, hy0, hy1⟩ := numbers_three hn
      have hn1 := h.n1
      by_cases hx : x = 0
      · rw [if_pos (.inl hx)]
        exact (arc_no2 t A c ws B0 rb v w h hw hg x y z hn (by simpa using hx)).mono fun _ _ => same
      · by_cases hy : y = 0
        · rw [if_pos (.inr (.inl hy))]
          exact (arc_no3 t A c ws B0 rb v w h hw hg x y z hn (by simpa using hx) (by simpa using hy)).mono fun _ _ => same
        · by_cases hm : (t.arcs.length : Int) ≥ t.many
          · rw [if_pos (.inr (.inr hm))]
            exact (arc_no4 t A c ws B0 rb v w h hw hg x y z hn (by simpa using hx) (by simpa using hy) hm).mono fun _ _ => same
          · rw [if_neg (by simp [hx, hy]; omega)]
            exact arc_yes t A c ws B0 rb v w h hB0 hw hg x y z hn (by simpa using hx) (by simpa using hy) (by omega) hx0 (by omega) hy0 (by omega)

/-- the words of a line -/
def wordsOf (s : ByteArray) : List ByteArray := (Split.frags 32 s).filter fun x => !x.toList.isEmpty
theorem wordsOf_bytes (s : ByteArray) : (wordsOf s).map bytes = GrFn.words (bytes s) := by
  unfold wordsOf GrFn.words Split.frags
  show List.map bytes (List.filter _ (List.map _ (cutAt 32 (bytes s)))) = _
  rw [List.filter_map, List.map_map]
  have e1 : bytes ∘ (fun l : List UInt8 => (⟨l.toArray⟩ : ByteArray)) = id := by funext l; rfl
  have e2 : (fun x : ByteArray => !x.toList.isEmpty) ∘ (fun l : List UInt8 => (⟨l.toArray⟩ : ByteArray)) = fun l => !l.isEmpty := by
    funext l
    show (!(⟨l.toArray⟩ : ByteArray).toList.isEmpty) = _
    rw [Lib.toList_data]
  rw [e1, e2, List.map_id]

theorem wordsOf_snoc (pre : List ByteArray) (x : ByteArray) : (pre ++ [x]).filter (fun x => !x.toList.isEmpty) = pre.filter (fun x => !x.toList.isEmpty) ++ if x.toList.isEmpty then [] else [x] := by
  rw [List.filter_append]
  cases h : x.toList.isEmpty <;> simp [h]

/-- a turn of a block that is no cells leaves the reader -/
theorem rdr_put {W : World} {B0 rb : Nat} {v : Value} {t : St} (h : Rdr W B0 rb v t) {D : Nat} {o : Obj} (o' : Obj) (hD : W.heap[D]? = some o) (ho : o.isCells = false) : Rdr (W.putObj D o') B0 rb v t := by
  have hne : rb ≠ D := fun e => by have hb := h.blk; rw [e, hD] at hb; cases hb; cases ho
  refine ⟨(World.putObj_heap_other hne).trans h.blk, ?_, h.base, h.n0, h.n1, h.m0, h.m1, h.len⟩
  refine Kd.R_mono (Kd.R_move (Kd.R_bound h.arcs) (fun k hk => World.putObj_heap_other (fun e => ?_))) (fun _ hk => hk.1)
  obtain ⟨_, _, _, q, _, cells, hc⟩ := hk
  rw [e, hD] at hc
  cases hc
  cases ho

theorem below_put {W : World} {B D : Nat} {w : World} (o' : Obj) (hb : Below B w W) (hB : B ≤ D) : Below B w (W.putObj D o') :=
  ⟨hb.os, hb.tape, hb.output, by simpa using hb.size, fun k hk => (World.putObj_heap_other (by omega)).trans (hb.block k hk)⟩

theorem step_put {w W : World} {B0 rb : Nat} {v : Value} {t : St} {q : Option St} {e : Ending} (h : StepTo w B0 rb v t q e W) {D : Nat} {o : Obj} (o' : Obj) (hD : W.heap[D]? = some o) (ho : o.isCells = false) (hB : B0 ≤ D) (hw : w.heap.size ≤ D) :
    StepTo w B0 rb v t q e (W.putObj D o') := by
  obtain ⟨he, v', h1, h2, h3⟩ := h
  refine ⟨he, v', rdr_put h1 o' hD ho, below_put o' h2 hB, ⟨by simpa using h3.1, fun i hi hn => (World.putObj_heap_other (by omega)).trans (h3.2 i hi hn)⟩⟩

end Go.Proofs.YtegikndkokemjaaDoor.PAll
