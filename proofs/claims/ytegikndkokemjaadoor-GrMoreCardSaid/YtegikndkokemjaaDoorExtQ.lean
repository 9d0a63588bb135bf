import Derived.Test.YtegikndkokemjaaDoorShelfB
import Derived.Test.YtegikndkokemjaaDoorGrFn
import Derived.Test.YtegikndkokemjaaDoorPAllx0
import Derived.WalkKit
import Derived.ProofKit
import Derived.WalkLawsBesides
import Derived.Lib.SmallJoins
import Derived.Lib.AppendIntMem
import Derived.Lib.Hide
import Derived.Handy
import Derived.Test.YtegikndkokemjaaDoorPuC
namespace Go.Proofs.YtegikndkokemjaaDoor.PAll
open Go.RowKit Go.Proofs.YtegikndkokemjaaDoorW.PrintWords Go.Proofs.YtegikndkokemjaaDoorW.PrintLast Go.Proofs.YtegikndkokemjaaDoorW.PrintMore
open GrFn Go.Shelf

/-- what each call of the builder leaves: its bytes, what lies below, every block that is not the builder's and no row of bytes -/
structure Wrote (B b : Nat) (l : List UInt8) (w W : World) : Prop where
  is : Lib.IsBuilderF 73 5 B b (Lib.byteCells l) W
  below : Below B w W
  others : Lib.OthersKept 5 (some b) w W

theorem Wrote.trans {B b : Nat} {l m : List UInt8} {u v w : World} (h : Wrote B b l u v) (k : Wrote B b m v w) : Wrote B b m u w := ⟨k.is, h.below.trans k.below, h.others.trans k.others⟩

theorem write_any (B b : Nat) (l m : List UInt8) (s : ByteArray) (hs : s.data.toList = m) (w : World) (h : Lib.IsBuilderF 73 5 B b (Lib.byteCells l) w) (hlen : l.length + m.length ≤ 140737488355328) (hB : B ≤ w.heap.size) :
    Calls Tryd.prog 30 #[.pointer (some ⟨b, 0, none⟩), .string s] w fun e w' => e = .returned (.tuple #[.int .i64 s.size, .nilIface]) ∧ Wrote B b (l ++ m) w w' := by
  refine (Any.Builder_WriteString_k Tryd.lays166 Tryd.Builder_Extra_166 B b (Lib.byteCells l) s w h (by rw [Lib.byteCells_length, show s.size = m.length by rw [← hs]; rfl]; exact hlen) hB).mono ?_
  rintro e w' ⟨rfl, h1, h2, h3⟩
  refine ⟨rfl, .inr ?_, h2, h3⟩
  rw [Lib.byteCells_append, ← hs]
  exact h1

theorem isBuilder_below {B b : Nat} {l : List UInt8} {w W : World} (h : Lib.IsBuilderF 73 5 B b (Lib.byteCells l) w) (hb : Below w.heap.size w W) : Lib.IsBuilderF 73 5 B b (Lib.byteCells l) W := by
  have go : ∀ p, Lib.BuilderAtF 73 5 B b p (Lib.byteCells l) w → Lib.BuilderAtF 73 5 B b p (Lib.byteCells l) W := fun p h => by
    have hlt := h.lt
    obtain ⟨hB, v, hk, hown, hne⟩ := h
    refine ⟨hB, v, (hb.block b hlt).trans hk, ?_, hne⟩
    refine ⟨hown.1, ?_⟩
    rcases hown.2 with hn | ⟨g, cap, cur, fz, hv, hg, hh, rest⟩
    · exact .inl hn
    · exact .inr ⟨g, cap, cur, fz, hv, hg, (hb.block g (blk_lt hh)).trans hh, rest⟩
  rcases h with h | h
  · exact .inl (go _ h)
  · exact .inr (go _ h)

theorem others_below {w W : World} (hb : Below w.heap.size w W) (b : Nat) : Lib.OthersKept 5 (some b) w W := fun k _ hk _ _ => (hb.block k (blk_lt hk)).trans hk

theorem dec_digits : ∀ n, Lib.decDigits n = digits n := by
  intro n
  induction n using Nat.strongRecOn with
  | ind n ih =>
    rw [Lib.decDigits, digits]
    split
    · rfl
    · rw [ih (n / 10) (by omega)]
theorem digits_short : ∀ (m n : Nat), n < 10 ^ (m + 1) → (digits n).length ≤ m + 1
  | 0, n, h => by rw [digits, if_pos (by omega)]; simp
  | m + 1, n, h => by
    rw [digits]
    split
    · simp
    · rw [List.length_append]
      have : n / 10 < 10 ^ (m + 1) := by
        rw [Nat.div_lt_iff_lt_mul (by omega)]
        rw [Nat.pow_succ] at h
        exact h
      have := digits_short m (n / 10) this
      simp; omega
theorem itoa_short (n : Int) (h0 : -9223372036854775808 ≤ n) (h1 : n ≤ 9223372036854775807) : (Lib.itoa n).length ≤ 20 := by
  unfold Lib.itoa
  split
  · rw [dec_digits, List.length_cons]
    have := digits_short 18 n.natAbs (by omega)
    omega
  · rw [dec_digits]
    have := digits_short 18 n.toNat (by omega)
    omega

theorem itoa_any (n : Int) (h0 : -9223372036854775808 ≤ n) (h1 : n ≤ 9223372036854775807) (w : World) (hT : Lib.TabIs Tryd.prog w "internal/strconv.uint64pow10" .u64 Lib.pow10Tab) :
    Calls Tryd.prog 31 #[.int .i64 n] w fun e w' => e = .returned (.string ⟨(Lib.itoa n).toArray⟩) ∧ Below w.heap.size w w' := by
  refine (Any.strconv_Itoa Tryd.lays171 n h0 h1 w hT).mono ?_
  rintro e w' ⟨rfl, k, os, rfl⟩
  exact ⟨rfl, Lib.below_grow _ _ (Nat.le_refl _) _ _⟩

/-- a number behind a blank -/
def numb (n : Int) : List UInt8 := 32 :: Lib.itoa n
/-- the table that strconv.Itoa reads, from B on -/
def Tab (B : Nat) (w : World) : Prop := Lib.TabBelow Tryd.prog B w "internal/strconv.uint64pow10" .u64 Lib.pow10Tab

theorem numb_short (n : Int) (h0 : -9223372036854775808 ≤ n) (h1 : n ≤ 9223372036854775807) : (numb n).length ≤ 21 := by
  have := itoa_short n h0 h1
  simp [numb]; omega

theorem nums_short : ∀ l : List Int, (∀ n ∈ l, -9223372036854775808 ≤ n ∧ n ≤ 9223372036854775807) → (l.flatMap numb).length ≤ 21 * l.length
  | [], _ => by simp
  | n :: l, h => by
    have h1 := numb_short n (h n (by simp)).1 (h n (by simp)).2
    have h2 := nums_short l (fun m hm => h m (by simp [hm]))
    rw [List.flatMap_cons, List.length_append, List.length_cons]
    omega

theorem take_snoc (l : List Int) (k : Nat) (h : k < l.length) : (l.take (k + 1)).flatMap numb = (l.take k).flatMap numb ++ numb l[k] := by
  rw [List.take_add_one, List.getElem?_eq_getElem h, List.flatMap_append]
  simp only [Option.toList_some, List.flatMap_cons, List.flatMap_nil, List.append_nil]

set_option maxHeartbeats 1000000 in
theorem line_walk (g b B : Nat) (bs wd : List UInt8) (word : ByteArray) (hwd : word.data.toList = wd) (l : List Int) (c : Nat) (hl100 : l.length ≤ 100) (h64 : ∀ n ∈ l, -9223372036854775808 ≤ n ∧ n ≤ 9223372036854775807) (w : World)
    (hg : w.heap[g]? = some (.cells (l.map fun n => Value.int .i64 n).toArray 3 (0, 0))) (hgb : g ≠ b) (h : Lib.IsBuilderF 73 5 B b (Lib.byteCells bs) w) (hB : B ≤ w.heap.size) (hT : Tab B w) (hlen : bs.length + wd.length + 10000 ≤ 140737488355328) :
    Calls Tryd.prog 29 #[.string word, .slice (some ⟨g, 0, none⟩) l.length c, .pointer (some ⟨b, 0, none⟩)] w fun e w' => e = .returned (.tuple #[]) ∧ Wrote B b (bs ++ wd ++ l.flatMap numb ++ [10]) w w' := by
  have hw1 := write_any B b bs wd word hwd w h (by omega) hB
  have H1 := Lib.hid hw1
  have HT := Lib.hid hT
  have HG := Lib.hid hg
  have H64 := Lib.hid h64
  have HWD := Lib.hid hwd
  clear hw1 hT hg h64 h hwd
  go_enter Tryd.func29, Tryd.ntmps29
  go_wp2_with (go_at_call 30; refine H1.out.mono ?_; rintro e w1 ⟨rfl, hW1⟩; have HW1 := Lib.hid hW1; clear hW1)
  go_loopw [11] (fun i W => ∃ k : Nat, k ≤ l.length ∧ i = .int .i64 k ∧ Wrote B b (bs ++ wd ++ (l.take k).flatMap numb) w W) (fun i _ => l.length - (intOf i).toNat)
  case atStart => exact ⟨0, by omega, rfl, by simpa using HW1.out⟩
  case round =>
    obtain ⟨k, hk, rfl, hWk⟩ := hrel
    have hbig : B ≤ wr.heap.size := Nat.le_trans hB hWk.below.size
    have hln := nums_short (l.take k) (fun n hn => H64.out n (List.mem_of_mem_take hn))
    rw [List.length_take] at hln
    by_cases hlt : k < l.length
    · have hmem := H64.out l[k] (List.getElem_mem hlt)
      have hgw : wr.heap[g]? = some (.cells (l.map fun n => Value.int .i64 n).toArray 3 (0, 0)) := hWk.others g _ HG.out (fun e => hgb (Option.some.inj e)) (fun c fz e => by cases e)
      have hcell : wr.cell? ⟨g, k, none⟩ = some (.int .i64 l[k]) := by
        rw [blk_cell hgw k]
        simp [hlt]
      have hit := itoa_any l[k] hmem.1 hmem.2 wr ((HT.out.on hWk.below).here)
      have hshort := itoa_short l[k] hmem.1 hmem.2
      have hnum := numb_short l[k] hmem.1 hmem.2
      obtain ⟨s, hs⟩ : ∃ s : ByteArray, (⟨(Lib.itoa l[k]).toArray⟩ : ByteArray) = s := ⟨_, rfl⟩
      have hsz : s.size ≤ 20 := by rw [← hs]; exact hshort
      have hcat : ((⟨#[32]⟩ : ByteArray) ++ s).data.toList = numb l[k] := by
        rw [← hs, ByteArray.data_append]
        simp [numb]
      rw [hs] at hit
      have hwr : ∀ W2, Below wr.heap.size wr W2 → Calls Tryd.prog 30 #[.pointer (some ⟨b, 0, none⟩), .string ((⟨#[32]⟩ : ByteArray) ++ s)] W2 fun e w' => e = .returned (.tuple #[.int .i64 ((⟨#[32]⟩ : ByteArray) ++ s).size, .nilIface]) ∧ Wrote B b (bs ++ wd ++ (l.take (k + 1)).flatMap numb) w w' := fun W2 hb2 => by
        refine (write_any B b (bs ++ wd ++ (l.take k).flatMap numb) (numb l[k]) _ hcat W2 (isBuilder_below hWk.is hb2) (by simp only [List.length_append]; omega) (Nat.le_trans hbig hb2.size)).mono ?_
        rintro e w' ⟨rfl, hW⟩
        refine ⟨rfl, ?_⟩
        have h1 : Wrote B b (bs ++ wd ++ (l.take k).flatMap numb ++ numb l[k]) wr w' := ⟨hW.is, (hb2.mono hbig).trans hW.below, (others_below hb2 b).trans hW.others⟩
        rw [take_snoc l k hlt, ← List.append_assoc]
        exact hWk.trans h1
      have HI := Lib.hid hit
      have HR := Lib.hid hwr
      clear hit hwr hs hcat hWk hgw hln hnum hshort
      generalize l[k] = n at *
      go_wp2_with (first | (go_at_call 31; refine HI.out.mono ?_; rintro e w2 ⟨rfl, hb2⟩; have HR2 := Lib.hid (HR.out w2 hb2)) | (go_at_call 30; refine HR2.out.mono ?_; rintro e w3 ⟨rfl, hW3⟩; have HW3 := Lib.hid hW3; clear hW3))
      go_roundw
      case rel => exact ⟨k + 1, by omega, by go_num, HW3.out⟩
      case measure => simp [intOf]; omega
    · have he : k = l.length := by omega
      subst he
      have hend : Calls Tryd.prog 30 #[.pointer (some ⟨b, 0, none⟩), .string ⟨#[10]⟩] wr fun e w' => e = .returned (.tuple #[.int .i64 (⟨#[10]⟩ : ByteArray).size, .nilIface]) ∧ Wrote B b (bs ++ wd ++ l.flatMap numb ++ [10]) w w' := by
        rw [List.take_length] at hWk
        refine (write_any B b (bs ++ wd ++ l.flatMap numb) [10] ⟨#[10]⟩ rfl wr hWk.is (by rw [List.take_length] at hln; simp only [List.length_append, List.length_singleton]; omega) hbig).mono ?_
        rintro e w' ⟨rfl, hW⟩
        exact ⟨rfl, hWk.trans hW⟩
      have HE := Lib.hid hend
      clear hend hWk hln
      go_wp2_with (go_at_call 30; refine HE.out.mono ?_; rintro e w2 ⟨rfl, hW2⟩)
      go_returns
      exact ⟨rfl, hW2⟩
end Go.Proofs.YtegikndkokemjaaDoor.PAll

namespace Go.Proofs.YtegikndkokemjaaDoor.PAll
open Go.RowKit Go.Proofs.YtegikndkokemjaaDoorW.PrintWords Go.Proofs.YtegikndkokemjaaDoorW.PrintLast Go.Proofs.YtegikndkokemjaaDoorW.PrintMore
open GrFn Go.Shelf

theorem check_any (n : Int) (A : Option Addr) (c : Nat) (l : List S50) (w : World) (hC : Kd.C k50 w A l.length l) (hc : l.length ≤ c) :
    Calls Tryd.prog 17 #[.agg #[.int .i64 n, .slice A l.length c]] w fun e w' => e = .returned (.int .i64 (check ⟨n, l.map ofS⟩)) ∧ Below w.heap.size w w' :=
  gr_Check.calls (l.length + 2) n A c l _ w hC hc (gr_check_all n l _ (by omega))

theorem check_ok {m : M} (h : check m = 0) : 0 ≤ m.n ∧ m.n ≤ 16777216 ∧ m.arcs.length ≤ 67108864 ∧ ∀ a ∈ m.arcs, 0 ≤ a.src ∧ a.src < m.n ∧ 0 ≤ a.dst ∧ a.dst < m.n ∧ 0 ≤ a.w ∧ a.w ≤ 2147483648 := by
  unfold check at h
  split at h
  · cases h
  · split at h
    · cases h
    · split at h
      · cases h
      · rename_i h1 h2 h3
        refine ⟨by omega, by omega, by omega, fun a ha => ?_⟩
        have : badArc m.n a = false := by
          cases hb : badArc m.n a with
          | false => rfl
          | true => exact absurd (List.any_eq_true.2 ⟨a, ha, hb⟩) h3
        unfold badArc at this
        simp only [Bool.or_eq_false_iff, decide_eq_false_iff_not] at this
        omega

/-- an arc's line, as it is written -/
def arcText (x : S50) : List UInt8 := [97] ++ [wrap64 (x.f0 + 1), wrap64 (x.f1 + 1), x.f2].flatMap numb ++ [10]
def headText (n : Int) (c : Nat) : List UInt8 := [112, 32, 115, 112] ++ [n, (c : Int)].flatMap numb ++ [10]

set_option maxRecDepth 100000 in
theorem print_bad (n : Int) (A : Option Addr) (c : Nat) (l : List S50) (w : World) (hC : Kd.C k50 w A l.length l) (hc : l.length ≤ c) (q : Int) (hq : check ⟨n, l.map ofS⟩ = q) (h0 : q ≠ 0) :
    Calls Tryd.prog 18 #[.agg #[.int .i64 n, .slice A l.length c]] w fun e w' => e = .returned (.tuple #[.string ⟨#[]⟩, .int .i64 q]) ∧ Below w.heap.size w w' := by
  have hu25 := Tryd.underlying25
  have hck := check_any n A c l (w.alloc (.cells #[.int .i64 n, .slice A l.length c] 25)) (Kd.C_alloc hC _) hc
  rw [hq] at hck
  obtain ⟨N, hN⟩ : ∃ N, l.length = N := ⟨_, rfl⟩
  rw [hN] at hck ⊢
  have HK := Lib.hid hck
  clear hck hq hC hc hN
  go_enter Tryd.func18, Tryd.ntmps18
  go_wp2_with (go_at_call 17; refine HK.out.mono ?_; rintro e w1 ⟨rfl, hb1⟩)
  go_returns
  exact ⟨rfl, ((Below.refl _ w).alloc (Nat.le_refl _) _).trans (hb1.mono (by simp))⟩
end Go.Proofs.YtegikndkokemjaaDoor.PAll
namespace Go.Proofs.YtegikndkokemjaaDoor.PAll
open Go.RowKit Go.Proofs.YtegikndkokemjaaDoorW.PrintWords Go.Proofs.YtegikndkokemjaaDoorW.PrintLast Go.Proofs.YtegikndkokemjaaDoorW.PrintMore
open GrFn Go.Shelf

/-- what Print has laid, with so many bytes written -/
structure PrSt (w : World) (n : Int) (A : Option Addr) (N c b : Nat) (bs : List UInt8) (W : World) : Prop where
  is : Lib.IsBuilderF 73 5 w.heap.size b (Lib.byteCells bs) W
  below : Below w.heap.size w W
  box : W.heap[w.heap.size]? = some (.cells #[.int .i64 n, .slice A N c] 25 (0, 0))
  ne : w.heap.size < b
  tab : Tab w.heap.size W

theorem PrSt.lt {w : World} {n : Int} {A : Option Addr} {N c b : Nat} {bs : List UInt8} {W : World} (h : PrSt w n A N c b bs W) : b < W.heap.size := by
  rcases h.is with h | h
  · exact h.lt
  · exact h.lt

theorem PrSt.on {w : World} {n : Int} {A : Option Addr} {N c b : Nat} {bs : List UInt8} {W W' : World} (h : PrSt w n A N c b bs W) (hb : Below W.heap.size W W') : PrSt w n A N c b bs W' :=
  ⟨isBuilder_below h.is hb, h.below.trans (hb.mono h.below.size), (hb.block _ (blk_lt h.box)).trans h.box, h.ne, h.tab.on (hb.mono h.below.size)⟩

theorem pr_line {w : World} {n : Int} {A : Option Addr} {N c b : Nat} {bs : List UInt8} {W W' : World} (h : PrSt w n A N c b bs W) (hb : Below W.heap.size W W') (g : Nat) (hgW : W.heap.size ≤ g) (l : List Int)
    (hg : W'.heap[g]? = some (.cells (l.map fun n => Value.int .i64 n).toArray 3 (0, 0))) (hl100 : l.length ≤ 100) (h64 : ∀ n ∈ l, -9223372036854775808 ≤ n ∧ n ≤ 9223372036854775807) (word : ByteArray) (hw : word.size ≤ 100) (hlen : bs.length + 20000 ≤ 140737488355328) (cc : Nat) :
    Calls Tryd.prog 29 #[.string word, .slice (some ⟨g, 0, none⟩) l.length cc, .pointer (some ⟨b, 0, none⟩)] W' fun e w' => e = .returned (.tuple #[]) ∧ PrSt w n A N c b (bs ++ (word.data.toList ++ l.flatMap numb ++ [10])) w' := by
  have h' := h.on hb
  refine (line_walk g b w.heap.size bs word.data.toList word rfl l cc hl100 h64 W' hg (by have := h.lt; omega) h'.is h'.below.size h'.tab (by show bs.length + word.size + 10000 ≤ _; omega)).mono ?_
  rintro e w' ⟨rfl, hW⟩
  refine ⟨rfl, ⟨by simpa using hW.is, h'.below.trans hW.below, hW.others _ _ h'.box (fun e => absurd (Option.some.inj e) (by have := h.ne; omega)) (fun c fz e => by cases e), h.ne, h'.tab.on hW.below⟩⟩

theorem arcText_short (x : S50) (h : 0 ≤ x.f2 ∧ x.f2 ≤ 2147483648) : (arcText x).length ≤ 70 := by
  have h3 := nums_short [wrap64 (x.f0 + 1), wrap64 (x.f1 + 1), x.f2] (by
    intro m hm
    simp only [List.mem_cons, List.not_mem_nil, or_false] at hm
    rcases hm with rfl | rfl | rfl
    · unfold wrap64; omega
    · unfold wrap64; omega
    · omega)
  simp only [arcText, List.length_append, List.length_singleton]
  simp only [List.length_cons, List.length_nil] at h3
  omega
theorem arcs_short : ∀ (l : List S50), (∀ x ∈ l, 0 ≤ x.f2 ∧ x.f2 ≤ 2147483648) → (l.flatMap arcText).length ≤ 70 * l.length
  | [], _ => by simp
  | x :: l, h => by
    have h1 := arcText_short x (h x (by simp))
    have h2 := arcs_short l (fun y hy => h y (by simp [hy]))
    rw [List.flatMap_cons, List.length_append, List.length_cons]
    omega
theorem head_short (n : Int) (c : Nat) (h0 : 0 ≤ n) (h1 : n ≤ 16777216) (h2 : c ≤ 67108864) : (headText n c).length ≤ 70 := by
  have h3 := nums_short [n, (c : Int)] (by
    intro m hm
    simp only [List.mem_cons, List.not_mem_nil, or_false] at hm
    rcases hm with rfl | rfl <;> omega)
  simp only [headText, List.length_append, List.length_cons, List.length_nil]
  simp only [List.length_cons, List.length_nil] at h3
  omega

set_option maxRecDepth 100000 in
set_option maxHeartbeats 2000000 in
theorem print_good (n : Int) (A : Option Addr) (c : Nat) (l : List S50) (w : World) (hC : Kd.C k50 w A l.length l) (hc : l.length ≤ c) (hq : check ⟨n, l.map ofS⟩ = 0) (hT : Lib.TabIs Tryd.prog w "internal/strconv.uint64pow10" .u64 Lib.pow10Tab) :
    Calls Tryd.prog 18 #[.agg #[.int .i64 n, .slice A l.length c]] w fun e w' => e = .returned (.tuple #[.string ⟨(headText n l.length ++ l.flatMap arcText).toArray⟩, .int .i64 0]) ∧ Below w.heap.size w w' := by
  have hu25 := Tryd.underlying25
  have hu50 := Tryd.underlying50
  have hu73 := Tryd.underlying73
  obtain ⟨hn0, hn1, hll, hall⟩ := check_ok hq
  simp only [List.length_map] at hn0 hn1 hll
  have hck := check_any n A c l (w.alloc (.cells #[.int .i64 n, .slice A l.length c] 25)) (Kd.C_alloc hC _) hc
  rw [hq] at hck
  have hstart : ∀ w1, Below (w.alloc (.cells #[.int .i64 n, .slice A l.length c] 25)).heap.size (w.alloc (.cells #[.int .i64 n, .slice A l.length c] 25)) w1 → PrSt w n A l.length c w1.heap.size [] (w1.alloc (.cells #[.pointer none, .slice none 0 0] 73)) := fun w1 hb => by
    have hb' : Below w.heap.size w w1 := ((Below.refl _ w).alloc (Nat.le_refl _) _).trans (hb.mono (by simp))
    have hs := hb.size
    rw [World.size_alloc] at hs
    refine ⟨.inl ⟨hb'.size, .slice none 0 0, blk_new w1 _, World.ownsRowF_nil _ _ _ _, by simp [Value.ownBlock]⟩, hb'.alloc hb'.size _, ?_, by omega, (Lib.tabBelow_of_tabIs hT).on (hb'.alloc hb'.size _)⟩
    exact blk_alloc ((hb.block _ (by simp)).trans (blk_new w _)) _
  have HK := Lib.hid hck
  have HS := Lib.hid hstart
  have HC := Lib.hid hC
  have HA := Lib.hid hall
  obtain ⟨N, hN⟩ : ∃ N, l.length = N := ⟨_, rfl⟩
  rw [hN] at HK HS hll hc ⊢
  have HN := Lib.hid hN
  clear hck hstart hq hC hall hT hN
  go_enter Tryd.func18, Tryd.ntmps18
  have hline1 : ∀ w1, Below (w.alloc (.cells #[.int .i64 n, .slice A N c] 25)).heap.size (w.alloc (.cells #[.int .i64 n, .slice A N c] 25)) w1 →
      Calls Tryd.prog 29 #[.string ⟨#[112, 32, 115, 112]⟩, .slice (some ⟨w1.heap.size + 1, 0, none⟩) 2 2, .pointer (some ⟨w1.heap.size, 0, none⟩)] ((w1.alloc (.cells #[.pointer none, .slice none 0 0] 73)).alloc (.cells #[.int .i64 n, .int .i64 N] 3)) fun e w' => e = .returned (.tuple #[]) ∧ PrSt w n A N c w1.heap.size (headText n N) w' := fun w1 hb =>
    pr_line (HS.out w1 hb) ((Below.refl _ _).alloc (Nat.le_refl _) _) (w1.heap.size + 1) (by simp) [n, (N : Int)] (by have := blk_new (w1.alloc (.cells #[.pointer none, .slice none 0 0] 73)) (.cells #[.int .i64 n, .int .i64 N] 3); rwa [World.size_alloc] at this) (by simp) (by intro m hm; simp at hm; omega) ⟨#[112, 32, 115, 112]⟩ (by decide) (by simp) 2
  have HL := Lib.hid hline1
  clear hline1
  go_wp2_with (first
    | (go_at_call 17; refine HK.out.mono ?_; rintro e w1 ⟨rfl, hb1⟩; have hbx := blk_alloc ((hb1.block w.heap.size (by simp)).trans (blk_new w _)) (.cells #[.pointer none, .slice none 0 0] 73); have cb0 : (w1.alloc (.cells #[.pointer none, .slice none 0 0] 73)).cell? ⟨w.heap.size, 0, none⟩ = some (.int .i64 n) := (blk_cell hbx 0).trans rfl; have cb1 : (w1.alloc (.cells #[.pointer none, .slice none 0 0] 73)).cell? ⟨w.heap.size, 1, none⟩ = some (.slice A N c) := (blk_cell hbx 1).trans rfl; clear hbx)
    | (go_at_call 29; refine (HL.out _ hb1).mono ?_; rintro e w3 ⟨rfl, hP⟩; have HP3 := Lib.hid hP; have cw1 : w3.cell? ⟨w.heap.size, 1, none⟩ = some (.slice A N c) := (blk_cell hP.box 1).trans rfl; clear hP))
  go_loopw [26] (fun i W => ∃ k : Nat, k ≤ N ∧ i = .int .i64 k ∧ PrSt w n A N c w1.heap.size (headText n N ++ (l.take k).flatMap arcText) W) (fun i _ => N - (intOf i).toNat)
  case atStart => exact ⟨0, by omega, rfl, by simpa using HP3.out⟩
  case round =>
    obtain ⟨k, hk, rfl, hPk⟩ := hrel
    by_cases hlt : k < N
    · have hCw := Kd.C_below HC.out hPk.below
      rw [HN.out] at hCw
      obtain ⟨ad, rfl, d0, d1, d2⟩ := at_T50 hCw (k : Int) (by omega) (by omega)
      have hmem : rd_T50 l (k : Int) ∈ l := by
        have hl : k < l.length := by rw [HN.out]; exact hlt
        have := drop_rd l k hl
        have h2 : rd_T50 l (k : Int) ∈ l.drop k := by rw [this]; simp
        exact List.mem_of_mem_drop h2
      have hb := HA.out (ofS (rd_T50 l (k : Int))) (List.mem_map.2 ⟨_, hmem, rfl⟩)
      have hstep : (l.take (k + 1)).flatMap arcText = (l.take k).flatMap arcText ++ arcText (rd_T50 l (k : Int)) := by
        have hl : k < l.length := by rw [HN.out]; exact hlt
        rw [List.take_add_one, List.getElem?_eq_getElem hl, List.flatMap_append]
        simp [rd_T50, List.getD, hl]
      have HP4 := Lib.hid hPk
      have HST := Lib.hid hstep
      clear hPk hCw hmem hstep
      generalize rd_T50 l (k : Int) = x at *
      obtain ⟨x0, x1, x2⟩ := x
      simp only [ofS, Int.toNat_natCast] at hb d0 d1 d2
      obtain ⟨b0, b1, b2, b3, b4, b5⟩ := hb
      have hsh1 := head_short n N hn0 hn1 hll
      have hsh2 := arcs_short (l.take k) (fun y hy => by
        have := HA.out (ofS y) (List.mem_map.2 ⟨y, List.mem_of_mem_take hy, rfl⟩)
        exact ⟨this.2.2.2.2.1, this.2.2.2.2.2⟩)
      rw [List.length_take] at hsh2
      have hline : Calls Tryd.prog 29 #[.string ⟨#[97]⟩, .slice (some ⟨wr.heap.size + 1, 0, none⟩) 3 3, .pointer (some ⟨w1.heap.size, 0, none⟩)] ((wr.alloc (.cells #[.int .i64 x0, .int .i64 x1, .int .i64 x2] 50)).alloc (.cells #[.int .i64 (x0 + 1), .int .i64 (x1 + 1), .int .i64 x2] 3)) fun e w' => e = .returned (.tuple #[]) ∧ PrSt w n (some ad) N c w1.heap.size (headText n N ++ (l.take (k + 1)).flatMap arcText) w' := by
        rw [HST.out, ← List.append_assoc]
        have := pr_line HP4.out (((Below.refl _ wr).alloc (Nat.le_refl _) (.cells #[.int .i64 x0, .int .i64 x1, .int .i64 x2] 50)).alloc (by simp) (.cells #[.int .i64 (x0 + 1), .int .i64 (x1 + 1), .int .i64 x2] 3)) (wr.heap.size + 1) (by omega) [x0 + 1, x1 + 1, x2]
          (by have := blk_new (wr.alloc (.cells #[.int .i64 x0, .int .i64 x1, .int .i64 x2] 50)) (.cells #[.int .i64 (x0 + 1), .int .i64 (x1 + 1), .int .i64 x2] 3); rwa [World.size_alloc] at this) (by simp) (by intro m hm; simp at hm; omega) ⟨#[97]⟩ (by decide) (by rw [List.length_append]; omega) 3
        have e1 : wrap64 (x0 + 1) = x0 + 1 := by unfold wrap64; omega
        have e2 : wrap64 (x1 + 1) = x1 + 1 := by unfold wrap64; omega
        unfold arcText
        simp only [e1, e2]
        exact this
      have HL2 := Lib.hid hline
      clear hline hsh1 hsh2
      go_wp2_with (go_at_call 29; refine HL2.out.mono ?_; rintro e w4 ⟨rfl, hP⟩; have HP5 := Lib.hid hP; clear hP)
      go_roundw
      case rel => exact ⟨k + 1, by omega, by go_num, HP5.out⟩
      case measure => simp [intOf]; omega
    · have he : k = N := by omega
      subst he
      have hfull : l.take k = l := List.take_of_length_le (by rw [HN.out]; exact Nat.le_refl _)
      rw [hfull] at hPk
      have hstr : Calls Tryd.prog 32 #[.pointer (some ⟨w1.heap.size, 0, none⟩)] wr fun e w' => e = .returned (.string ⟨(headText n k ++ l.flatMap arcText).toArray⟩) ∧ Below w.heap.size wr w' := by
        refine (Any.Builder_String_any_k Tryd.lays169 Tryd.Builder_Extra_169 w.heap.size w1.heap.size (headText n k ++ l.flatMap arcText) wr hPk.is hPk.below.size).mono ?_
        rintro e w' ⟨rfl, _, h2, _⟩
        exact ⟨rfl, h2⟩
      have HB := Lib.hid hPk.below
      have HX := Lib.hid hstr
      obtain ⟨txt, htx⟩ : ∃ t, (⟨(headText n k ++ l.flatMap arcText).toArray⟩ : ByteArray) = t := ⟨_, rfl⟩
      rw [htx] at HX
      clear hPk hstr hfull
      go_wp2_with (go_at_call 32; refine HX.out.mono ?_; rintro e w5 ⟨rfl, hb5⟩)
      go_returns
      exact ⟨by rw [htx]; rfl, HB.out.trans hb5⟩
end Go.Proofs.YtegikndkokemjaaDoor.PAll

namespace Go.Proofs.YtegikndkokemjaaDoor.PAll
open Go.RowKit Go.Proofs.YtegikndkokemjaaDoorW.PrintWords Go.Proofs.YtegikndkokemjaaDoorW.PrintLast Go.Proofs.YtegikndkokemjaaDoorW.PrintMore
open GrFn

theorem numb_is (n : Int) (h : 0 ≤ n) : numb n = 32 :: digits n.toNat := by
  unfold numb Lib.itoa
  rw [if_neg (by omega), dec_digits]

theorem arcText_is (a : Arc) (h : 0 ≤ a.src ∧ a.src ≤ 16777216 ∧ 0 ≤ a.dst ∧ a.dst ≤ 16777216 ∧ 0 ≤ a.w) : arcText (toS a) = arcLine a := by
  have e1 : wrap64 (a.src + 1) = a.src + 1 := by unfold wrap64; omega
  have e2 : wrap64 (a.dst + 1) = a.dst + 1 := by unfold wrap64; omega
  simp only [arcText, toS, arcLine, e1, e2, List.flatMap_cons, List.flatMap_nil, numb_is (a.src + 1) (by omega), numb_is (a.dst + 1) (by omega), numb_is a.w (by omega)]
  simp

theorem headText_is (n : Int) (c : Nat) (h : 0 ≤ n) : headText n c = [112, 32, 115, 112, 32] ++ digits n.toNat ++ [32] ++ digits c ++ [10] := by
  simp only [headText, List.flatMap_cons, List.flatMap_nil, numb_is n h, numb_is (c : Int) (by omega)]
  simp

theorem toS_ofS (x : S50) : toS (ofS x) = x := rfl

theorem text_is (n : Int) (l : List S50) (h : check ⟨n, l.map ofS⟩ = 0) : headText n l.length ++ l.flatMap arcText = text ⟨n, l.map ofS⟩ := by
  obtain ⟨h0, _, _, h3⟩ := check_ok h
  simp only at h0 h3
  unfold text headLine
  simp only [List.length_map]
  rw [headText_is n _ h0]
  congr 1
  have : ∀ (l : List S50), (∀ a ∈ l.map ofS, 0 ≤ a.src ∧ a.src ≤ 16777216 ∧ 0 ≤ a.dst ∧ a.dst ≤ 16777216 ∧ 0 ≤ a.w) → l.flatMap arcText = (l.map ofS).flatMap arcLine := by
    intro l
    induction l with
    | nil => intro _; rfl
    | cons x l ih =>
      intro hl
      rw [List.flatMap_cons, List.map_cons, List.flatMap_cons, ih (fun a ha => hl a (by simp only [List.map_cons, List.mem_cons]; exact .inr ha)), ← arcText_is (ofS x) (hl (ofS x) (by simp))]
      rfl
  refine this l (fun a ha => ?_)
  have hb := h3 a ha
  obtain ⟨_, hn, _, _⟩ := check_ok h
  simp only at hn
  omega

def gr_Print.f (_k : Nat) (a0_0 : Int) (l0_1 : List (S50)) : Option (ByteArray × Int) :=
  match GrFn.print ⟨a0_0, l0_1.map ofS⟩ with
  | .inl t => some (⟨t.toArray⟩, 0)
  | .inr e => some (⟨#[]⟩, e)
theorem gr_Print.mono : ∀ a0 a1 k, LeO (gr_Print.f k a0 a1) (gr_Print.f (k + 1) a0 a1) := fun _ _ _ => LeO.refl _
theorem gr_Print.calls (k : Nat) (a0_0 : Int) (A0_1 : Option Addr) (c0_1 : Nat) (l0_1 : List (S50)) (r1 : ByteArray) (r2 : Int) (w : World) (hr0_1 : Kd.C k50 w A0_1 l0_1.length l0_1) (hc0_1 : l0_1.length ≤ c0_1) (h : gr_Print.f k a0_0 l0_1 = some (r1, r2)) (hT : Lib.TabIs Tryd.prog w "internal/strconv.uint64pow10" .u64 Lib.pow10Tab) :
    Calls Tryd.prog 18 #[.agg #[.int .i64 a0_0, .slice A0_1 l0_1.length c0_1]] w fun e w' => e = .returned (.tuple #[.string r1, .int .i64 r2]) ∧ Below w.heap.size w w' := by
  unfold gr_Print.f GrFn.print at h
  by_cases hq : check ⟨a0_0, l0_1.map ofS⟩ = 0
  · rw [if_pos hq] at h
    cases h
    rw [← text_is a0_0 l0_1 hq]
    exact print_good a0_0 A0_1 c0_1 l0_1 w hr0_1 hc0_1 hq hT
  · rw [if_neg hq] at h
    cases h
    exact print_bad a0_0 A0_1 c0_1 l0_1 w hr0_1 hc0_1 _ rfl hq
end Go.Proofs.YtegikndkokemjaaDoor.PAll
