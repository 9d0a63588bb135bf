import Derived.Test.YtfppfdejjifhdaaQLgP
import Derived.RangeFuncBox
import Derived.Test.YtfppfdejjifhdaaQHpF
namespace Go.Proofs.Ytfppfdejjifhdaa.PAll
open Go.RowKit Go.Proofs.YtfppfdejjifhdaaW.PrintWords Go.Proofs.YtfppfdejjifhdaaW.PrintLast Go.Proofs.YtfppfdejjifhdaaW.PrintMore
open Hp hiding Good
set_option linter.unusedVariables false
set_option linter.unusedSimpArgs false

theorem info55 : (Try.prog.info? 55).map (fun i => (i.zero, i.size, i.bytes)) = some (some (.agg #[(.int .i64 0), (.int .i64 0), (.int .i64 0)]), 3, 24) := by kernel_rfl
/-! #### struct type 55 -/
structure S55 where
  f0 : Int
  f1 : Int
  f2 : Int
def z55 : S55 := ⟨(0 : Int), (0 : Int), (0 : Int)⟩
def k55 : Kd S55 := Kd.iso (Kd.pair (Kd.int .i64) (Kd.pair (Kd.int .i64) (Kd.int .i64))) (fun x : S55 => (x.f0, x.f1, x.f2))
theorem k55_open {w : World} {x : S55} {cs : List Value} (h : k55.K w x cs) : cs = [.int .i64 x.f0, .int .i64 x.f1, .int .i64 x.f2] := by
  obtain ⟨_, _, rfl, rfl, ⟨_, _, rfl, rfl, rfl⟩⟩ := h
  exact rfl
theorem k55_openM {w : World} {base : Nat} {ok : Nat → Prop} {x : S55} {cs : List Value} (h : k55.M w base ok x cs) : cs = [.int .i64 x.f0, .int .i64 x.f1, .int .i64 x.f2] := by
  obtain ⟨_, _, rfl, rfl, ⟨_, _, rfl, rfl, rfl⟩⟩ := h
  exact rfl
theorem k55_mk (w : World) (x : S55)  : k55.K w x [.int .i64 x.f0, .int .i64 x.f1, .int .i64 x.f2] := ⟨[.int .i64 x.f0], [.int .i64 x.f1, .int .i64 x.f2], rfl, rfl, ⟨[.int .i64 x.f1], [.int .i64 x.f2], rfl, rfl, rfl⟩⟩
theorem k55_mkM (w : World) (base : Nat) (ok : Nat → Prop) (x : S55)  : k55.M w base ok x [.int .i64 x.f0, .int .i64 x.f1, .int .i64 x.f2] := ⟨[.int .i64 x.f0], [.int .i64 x.f1, .int .i64 x.f2], rfl, rfl, ⟨[.int .i64 x.f1], [.int .i64 x.f2], rfl, rfl, rfl⟩⟩
def rd_T55 (xs : List S55) (i : Int) : S55 := xs.getD i.toNat z55
theorem at_T55 {w : World} {A : Option Addr} {n : Nat} {xs : List S55} (h : Kd.C k55 w A n xs) (i : Int) (h0 : 0 ≤ i) (h1 : i < n) : ∃ ad , A = some ad ∧ w.cell? (ad.add (i.toNat * 3)) = some (.int .i64 (rd_T55 xs i).f0) ∧ w.cell? ⟨(ad.add (i.toNat * 3)).block, (ad.add (i.toNat * 3)).off + 1, none⟩ = some (.int .i64 (rd_T55 xs i).f1) ∧ w.cell? ⟨(ad.add (i.toNat * 3)).block, (ad.add (i.toNat * 3)).off + 2, none⟩ = some (.int .i64 (rd_T55 xs i).f2) := by
  obtain ⟨ad, c, e, _, hK, hc0⟩ := Kd.C_get h z55 i h0 h1
  have hc : ∀ j u, c[j]? = some u → w.cell? (ad.add (i.toNat * 3 + j)) = some u := hc0
  obtain rfl := k55_open hK
  exact ⟨ad, e, hc 0 _ rfl, by rw [← add_field _ _ 1 (by omega)]; exact hc 1 _ rfl, by rw [← add_field _ _ 2 (by omega)]; exact hc 2 _ rfl⟩
end Go.Proofs.Ytfppfdejjifhdaa.PAll

namespace Go.Proofs.Ytfppfdejjifhdaa.PAll
open Go.RowKit Go.Proofs.YtfppfdejjifhdaaW.PrintWords Go.Proofs.YtfppfdejjifhdaaW.PrintLast Go.Proofs.YtfppfdejjifhdaaW.PrintMore
open Hp hiding Good
set_option linter.unusedVariables false
set_option linter.unusedSimpArgs false

/-! ### rows of numbers, told by a function -/
def rowF (m : Nat) (f : Nat → Int) : List Int := (List.range m).map f
theorem rowF_len (m : Nat) (f : Nat → Int) : (rowF m f).length = m := by simp [rowF]
theorem rd_rowF {m : Nat} (f : Nat → Int) {i : Nat} (h : i < m) : rd (rowF m f) (i : Int) = f i := by simp [rd, rowF, List.getD, h]
theorem rowF_ext {m : Nat} {f g : Nat → Int} (h : ∀ j, j < m → f j = g j) : rowF m f = rowF m g := by
  unfold rowF
  exact List.map_congr_left (fun j hj => h j (List.mem_range.1 hj))
theorem rowF_set (m : Nat) (f : Nat → Int) (i : Nat) (x : Int) : (rowF m f).set i x = rowF m (fun j => if j = i then x else f j) := by
  apply List.ext_getElem
  · simp [rowF]
  · intro j h1 h2
    simp only [rowF, List.getElem_set, List.getElem_map, List.getElem_range]
    by_cases e : i = j
    · rw [if_pos e, if_pos e.symm]
    · rw [if_neg e, if_neg (fun h => e h.symm)]
theorem rowF_zero (m : Nat) : List.replicate m (0 : Int) = rowF m (fun _ => 0) := by
  apply List.ext_getElem
  · simp [rowF]
  · intro j h1 h2
    simp [rowF]
/-- a row of numbers of the call's own -/
def OwnI (w : World) (B g n : Nat) (x : List Int) : Prop := w.ownsRow B 3 1 (.slice (some ⟨g, 0, none⟩) n n) n (ints x)
theorem OwnI.len {w : World} {B g n : Nat} {x : List Int} (h : OwnI w B g n x) : x.length = n := by
  have := h.1
  simpa [ints] using this
theorem OwnI.facts {w : World} {B g n : Nat} {x : List Int} (h : OwnI w B g n x) (i : Nat) (hi : i < n) : w.cell? ⟨g, i, none⟩ = some (.int .i64 (rd x i)) ∧ w.frozen? ⟨g, i, none⟩ = false ∧ g < w.heap.size :=
  ⟨(World.ownsRow.cellAt h i (by omega)).trans (ints_get x i (by rw [h.len]; exact hi)), World.ownsRow.frozenAt h i, (World.ownsRow.lt h g rfl).2⟩
theorem OwnI.set {w : World} {B g n : Nat} {x : List Int} (h : OwnI w B g n x) (i : Nat) (v : Int) : OwnI (w.setCell ⟨g, i, none⟩ (.int .i64 v)) B g n (x.set i v) := by
  have := (World.ownsRow.stored h i (.int .i64 v)).1
  rw [← ints_set] at this
  exact this
theorem OwnI.below {w w' : World} {B g n : Nat} {x : List Int} (h : OwnI w B g n x) (b : Below w.heap.size w w') : OwnI w' B g n x := own_only h (Only.of_below b (fun _ => False)) (fun _ _ f => f)
theorem OwnI.only {w w' : World} {B g n : Nat} {x : List Int} {S : Nat → Prop} (h : OwnI w B g n x) (b : Only w w' S) (hs : ¬ S g) : OwnI w' B g n x := own_only h b (fun k hk f => hs (by simp [Value.ownBlock] at hk; subst hk; exact f))
theorem OwnI.lt {w : World} {B g n : Nat} {x : List Int} (h : OwnI w B g n x) : B ≤ g ∧ g < w.heap.size := World.ownsRow.lt h g rfl
theorem OwnI.C {w : World} {B g n : Nat} {x : List Int} (h : OwnI w B g n x) (hm : n ≤ maxLen) : Kd.C (Kd.int .i64) w (some ⟨g, 0, none⟩) n x := by
  refine ⟨h.len, hm, fun _ => ⟨⟨g, 0, none⟩, rfl, fun j p hj => ?_⟩⟩
  have hjl := (List.getElem?_eq_some_iff.1 hj).1
  have hp : rd x (j : Int) = p := by
    simp [rd, List.getD, hj]
  obtain ⟨c, _, _⟩ := h.facts j (by have := h.len; omega)
  rw [hp] at c
  refine ⟨[.int .i64 p], rfl, rfl, fun i u hu => ?_⟩
  match i, hu with
  | 0, hu =>
    cases hu
    show w.cell? ((⟨g, 0, none⟩ : Addr).add (j * 1)) = _
    by_cases h0 : j = 0
    · subst h0; simpa [Addr.add] using c
    · simpa [Addr.add, h0] using c
  | i + 1, hu => simp at hu
/-- a map, as its graph keeps it, in a box -/
structure MB (W : World) (mb n : Nat) (A : List S42) : Prop where
  blk : ∃ Aa ca, W.heap[mb]? = some (.cells #[.int .i64 n, .slice Aa A.length ca] 27 (0, 0)) ∧ A.length ≤ ca ∧ Kd.C k42 W Aa A.length A
theorem MB.below {W W' : World} {mb n : Nat} {A : List S42} (h : MB W mb n A) (g : Below W.heap.size W W') : MB W' mb n A := by
  obtain ⟨Aa, ca, h1, h2, h3⟩ := h.blk
  exact ⟨Aa, ca, (g.block _ (blk_lt h1)).trans h1, h2, Kd.C_below h3 g⟩
theorem MB.lt {W : World} {mb n : Nat} {A : List S42} (h : MB W mb n A) : mb < W.heap.size := by
  obtain ⟨Aa, ca, h1, _⟩ := h.blk
  exact blk_lt h1
def frA (A : List S42) (k : Int) : Int := (rd_T42 A k).f0
def twA (A : List S42) (k : Int) : Int := (rd_T42 A k).f1
def wtA (A : List S42) (k : Int) : Int := (rd_T42 A k).f2
theorem from_walk (W : World) (mb n : Nat) (A : List S42) (H : MB W mb n A) (k : Int) (k0 : 0 ≤ k) (k1 : k < A.length) :
    Calls Try.prog 19 #[.int .i64 k, .pointer (some ⟨mb, 0, none⟩)] W fun r w' => r = .returned (.int .i64 (frA A k)) ∧ W = w' := by
  obtain ⟨Aa, ca, h1, h2, h3⟩ := H.blk
  obtain ⟨kn, rfl⟩ := Int.eq_ofNat_of_zero_le k0
  obtain ⟨ad, rfl, r0, r1, r2⟩ := at_T42 h3 (kn : Int) (by omega) k1
  have c1 := (blk_cell h1 1).trans rfl
  have cl := blk_lt h1
  simp only [Int.toNat_natCast] at r0
  unfold frA
  generalize (rd_T42 A (kn : Int)).f0 = x at *
  generalize A.length = m at *
  have d0 : (0 : Int) ≤ (kn : Int) := Int.natCast_nonneg _
  clear h1 h2 h3 H r1 r2
  go_enter Try.func19, Try.ntmps19
  go_wp2
  go_ret
  exact ⟨rfl, rfl⟩
theorem to_walk (W : World) (mb n : Nat) (A : List S42) (H : MB W mb n A) (k : Int) (k0 : 0 ≤ k) (k1 : k < A.length) :
    Calls Try.prog 20 #[.int .i64 k, .pointer (some ⟨mb, 0, none⟩)] W fun r w' => r = .returned (.int .i64 (twA A k)) ∧ W = w' := by
  obtain ⟨Aa, ca, h1, h2, h3⟩ := H.blk
  obtain ⟨kn, rfl⟩ := Int.eq_ofNat_of_zero_le k0
  obtain ⟨ad, rfl, r0, r1, r2⟩ := at_T42 h3 (kn : Int) (by omega) k1
  have c1 := (blk_cell h1 1).trans rfl
  have cl := blk_lt h1
  simp only [Int.toNat_natCast] at r1
  unfold twA
  generalize (rd_T42 A (kn : Int)).f1 = x at *
  generalize A.length = m at *
  have d0 : (0 : Int) ≤ (kn : Int) := Int.natCast_nonneg _
  clear h1 h2 h3 H r0 r2
  go_enter Try.func20, Try.ntmps20
  go_wp2
  go_ret
  exact ⟨rfl, rfl⟩

end Go.Proofs.Ytfppfdejjifhdaa.PAll
