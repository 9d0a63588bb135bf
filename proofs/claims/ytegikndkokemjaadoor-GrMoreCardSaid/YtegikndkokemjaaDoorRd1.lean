import Derived.Test.YtegikndkokemjaaDoorRd0
import Derived.StillTailTactics
import Derived.Lib.Hide
namespace Go.Proofs.YtegikndkokemjaaDoor.PAll
open Go.RowKit Go.Proofs.YtegikndkokemjaaDoorW.PrintWords Go.Proofs.YtegikndkokemjaaDoorW.PrintLast Go.Proofs.YtegikndkokemjaaDoorW.PrintMore
open GrFn

/-- 'xs[1:]' of strings: what is read there -/
theorem cut_str {w : World} {ad : Addr} {c : Nat} {x : ByteArray} {ws : List ByteArray} (hg : (x :: ws).length ≤ c) (h : Kd.C Kd.string w (some ad) (x :: ws).length (x :: ws)) :
    (c = 1 ∧ Kd.C Kd.string w (some ad) ws.length ws) ∨ (¬ c = 1 ∧ Kd.C Kd.string w (some ⟨ad.block, ad.off + 1, none⟩) ws.length ws) := by
  have := Kd.C_drop (m := 1) (c := c) h (by simp) hg
  simp only [List.drop_succ_cons, List.drop_zero] at this
  by_cases hc : c = 1
  · rw [if_pos hc] at this
    exact .inl ⟨hc, this⟩
  · rw [if_neg hc] at this
    exact .inr ⟨hc, this⟩

/-- two numbers in a row of the call's own -/
theorem two_cells {W : World} {B : Nat} {ok : Nat → Prop} {v : Value} {a b : Int} (h : Kd.R (Kd.int .i64) 3 W B ok v [a, b]) :
    ∃ g cap, v = .slice (some ⟨g, 0, none⟩) 2 cap ∧ B ≤ g ∧ g < W.heap.size ∧ W.cell? ⟨g, 0, none⟩ = some (.int .i64 a) ∧ W.cell? ⟨g, 1, none⟩ = some (.int .i64 b) := by
  obtain ⟨g, cap, rfl, hb, hlt, _⟩ := Kd.R_form h (by simp)
  exact ⟨g, cap, rfl, hb, hlt, (Kd.R_cell 0 h 0 (by omega) (by simp)).1, (Kd.R_cell 0 h 1 (by omega) (by simp)).1⟩
theorem three_cells {W : World} {B : Nat} {ok : Nat → Prop} {v : Value} {a b c : Int} (h : Kd.R (Kd.int .i64) 3 W B ok v [a, b, c]) :
    ∃ g cap, v = .slice (some ⟨g, 0, none⟩) 3 cap ∧ B ≤ g ∧ g < W.heap.size ∧ W.cell? ⟨g, 0, none⟩ = some (.int .i64 a) ∧ W.cell? ⟨g, 1, none⟩ = some (.int .i64 b) ∧ W.cell? ⟨g, 2, none⟩ = some (.int .i64 c) := by
  obtain ⟨g, cap, rfl, hb, hlt, _⟩ := Kd.R_form h (by simp)
  exact ⟨g, cap, rfl, hb, hlt, (Kd.R_cell 0 h 0 (by omega) (by simp)).1, (Kd.R_cell 0 h 1 (by omega) (by simp)).1, (Kd.R_cell 0 h 2 (by omega) (by simp)).1⟩

/-- a new literal row of two numbers, of three -/
theorem lit2 (w : World) (a b : Int) : Kd.C (Kd.int .i64) (w.alloc (.cells #[.int .i64 a, .int .i64 b] 3)) (some ⟨w.heap.size, 0, none⟩) [a, b].length [a, b] := by
  have hb : (w.alloc (.cells #[.int .i64 a, .int .i64 b] 3)).heap[w.heap.size]? = some (.cells #[.int .i64 a, .int .i64 b] 3 (0, 0)) := blk_new w _
  refine Kd.C_of_reads (d := (0 : Int)) ⟨rfl, by simp, fun _ => ⟨_, rfl, fun i hi => ?_⟩⟩
  match i, hi with
  | 0, _ => exact (blk_cell hb 0).trans rfl
  | 1, _ => exact (blk_cell hb 1).trans rfl
  | n + 2, hi => simp at hi; omega
theorem lit3 (w : World) (a b c : Int) : Kd.C (Kd.int .i64) (w.alloc (.cells #[.int .i64 a, .int .i64 b, .int .i64 c] 3)) (some ⟨w.heap.size, 0, none⟩) [a, b, c].length [a, b, c] := by
  have hb : (w.alloc (.cells #[.int .i64 a, .int .i64 b, .int .i64 c] 3)).heap[w.heap.size]? = some (.cells #[.int .i64 a, .int .i64 b, .int .i64 c] 3 (0, 0)) := blk_new w _
  refine Kd.C_of_reads (d := (0 : Int)) ⟨rfl, by simp, fun _ => ⟨_, rfl, fun i hi => ?_⟩⟩
  match i, hi with
  | 0, _ => exact (blk_cell hb 0).trans rfl
  | 1, _ => exact (blk_cell hb 1).trans rfl
  | 2, _ => exact (blk_cell hb 2).trans rfl
  | n + 3, hi => simp at hi; omega

/-- the first word -/
theorem word0 {w : World} {A : Option Addr} {x : ByteArray} {xs : List ByteArray} (h : Kd.C Kd.string w A (x :: xs).length (x :: xs)) : ∃ ad, A = some ad ∧ w.cell? ad = some (.string x) := by
  obtain ⟨ad, e, hc⟩ := Kd.at_string h 0 (Int.le_refl 0) (by simp)
  refine ⟨ad, e, ?_⟩
  have : ad.add (0 : Int).toNat = ad := by simp [Addr.add]
  rw [this] at hc
  simpa [rdOf] using hc

/-- The reader in memory: its block, what its slice owns. -/
structure Rdr (W : World) (B0 rb : Nat) (v : Value) (t : St) : Prop where
  blk : W.heap[rb]? = some (.cells #[.int .i64 t.n, v, .int .i64 t.many] 54 (0, 0))
  arcs : Kd.R k50 50 W B0 (fun _ => True) v (t.arcs.map toS)
  base : B0 ≤ rb
  n0 : 0 ≤ t.n
  n1 : t.n ≤ 16777216
  m0 : -1 ≤ t.many
  m1 : t.many ≤ 67108864
  len : (t.arcs.length : Int) ≤ 67108864

theorem Rdr.cells {W : World} {B0 rb : Nat} {v : Value} {t : St} (h : Rdr W B0 rb v t) : W.cell? ⟨rb, 0, none⟩ = some (.int .i64 t.n) ∧ W.cell? ⟨rb, 1, none⟩ = some v ∧ W.cell? ⟨rb, 2, none⟩ = some (.int .i64 t.many) ∧
    W.frozen? ⟨rb, 0, none⟩ = false ∧ W.frozen? ⟨rb, 1, none⟩ = false ∧ W.frozen? ⟨rb, 2, none⟩ = false :=
  ⟨(blk_cell h.blk 0).trans rfl, (blk_cell h.blk 1).trans rfl, (blk_cell h.blk 2).trans rfl, blk_frozen h.blk 0, blk_frozen h.blk 1, blk_frozen h.blk 2⟩

set_option maxHeartbeats 400000 in
theorem size_no1 (t : St) (A : Option Addr) (c : Nat) (ws : List ByteArray) (B0 rb : Nat) (v : Value) (w : World) (h : Rdr w B0 rb v t) (hm : 0 ≤ t.many) :
    Calls Tryd.prog 35 #[.pointer (some ⟨rb, 0, none⟩), .slice A ws.length c] w fun e w' => e = .returned (.bool false) ∧ Below w.heap.size w w' := by
  obtain ⟨c0, c1, c2, f0, f1, f2⟩ := h.cells
  go_enter Tryd.func35, Tryd.ntmps35
  go_wp2_with fail
  go_ret
  exact ⟨rfl, Below.refl _ _⟩

set_option maxHeartbeats 400000 in
theorem size_no2 (t : St) (A : Option Addr) (c : Nat) (B0 rb : Nat) (v : Value) (w : World) (h : Rdr w B0 rb v t) (hm : t.many < 0) :
    Calls Tryd.prog 35 #[.pointer (some ⟨rb, 0, none⟩), .slice A 0 c] w fun e w' => e = .returned (.bool false) ∧ Below w.heap.size w w' := by
  obtain ⟨c0, c1, c2, f0, f1, f2⟩ := h.cells
  go_enter Tryd.func35, Tryd.ntmps35
  go_wp2_with fail
  go_ret
  exact ⟨rfl, Below.refl _ _⟩

set_option maxHeartbeats 400000 in
theorem size_no3 (t : St) (c : Nat) (x : ByteArray) (ad : Addr) (m : Nat) (B0 rb : Nat) (v : Value) (w : World) (h : Rdr w B0 rb v t) (hm : t.many < 0) (hc : w.cell? ad = some (.string x)) (hx : (x.toList == [115, 112]) = false) :
    Calls Tryd.prog 35 #[.pointer (some ⟨rb, 0, none⟩), .slice (some ad) (m + 1) c] w fun e w' => e = .returned (.bool false) ∧ Below w.heap.size w w' := by
  obtain ⟨c0, c1, c2, f0, f1, f2⟩ := h.cells
  have hb : (((m : Int) + 1) == 0) = false := by rw [beq_eq_false_iff_ne]; omega
  go_enter Tryd.func35, Tryd.ntmps35
  go_wp2_with fail
  go_ret
  exact ⟨rfl, Below.refl _ _⟩

set_option maxHeartbeats 400000 in
theorem size_no4 (t : St) (c : Nat) (x : ByteArray) (ws : List ByteArray) (ad : Addr) (m : Nat) (hmw : ws.length = m) (B0 rb : Nat) (v : Value) (w : World) (h : Rdr w B0 rb v t) (hm : t.many < 0) (hc : w.cell? ad = some (.string x)) (hx : (x.toList == [115, 112]) = true)
    (hg : (x :: ws).length ≤ c) (hw : Kd.C Kd.string w (some ad) (x :: ws).length (x :: ws)) (hn : numbers (ws.map bytes) [16777216, 67108864] = none) :
    Calls Tryd.prog 35 #[.pointer (some ⟨rb, 0, none⟩), .slice (some ad) (m + 1) c] w fun e w' => e = .returned (.bool false) ∧ Below w.heap.size w w' := by
  obtain ⟨c0, c1, c2, f0, f1, f2⟩ := h.cells
  have hb : (((m : Int) + 1) == 0) = false := by rw [beq_eq_false_iff_ne]; omega
  have hcon : ∀ A1 c1, ws.length ≤ c1 → Kd.C Kd.string w A1 ws.length ws → Calls Tryd.prog 53 #[.slice A1 m c1, .slice (some ⟨w.heap.size, 0, none⟩) 2 2] (w.alloc (.cells #[.int .i64 16777216, .int .i64 67108864] 3)) fun e w' => ∃ v0, e = .returned (.tuple #[v0, .bool false]) ∧ Below w.heap.size w w' := by
    intro A1 c1 hc1 hw1
    have := numbers_any ws [16777216, 67108864] (by decide) A1 _ c1 2 _ (Kd.C_alloc hw1 (.cells #[.int .i64 16777216, .int .i64 67108864] 3)) hc1 (lit2 w 16777216 67108864) (by simp)
    rw [hn, hmw] at this
    refine this.mono ?_
    rintro e w' ⟨v0, rfl, _, hb1⟩
    exact ⟨v0, rfl, ((Below.refl _ w).alloc (Nat.le_refl _) _).trans (hb1.mono (by simp))⟩
  have hgm : ws.length ≤ c - 1 := by simp at hg; omega
  rcases cut_str hg hw with ⟨rfl, hw1⟩ | ⟨hc1, hw1⟩
  · have HC := Lib.hid (hcon _ _ hgm hw1)
    clear hw hw1 hcon hn hgm hg hmw
    go_enter Tryd.func35, Tryd.ntmps35
    go_wp2_with (go_at_call 53; refine HC.out.mono ?_; rintro e w1 ⟨v0, rfl, hB1⟩)
    go_ret
    exact ⟨rfl, hB1⟩
  · have HC := Lib.hid (hcon _ _ hgm hw1)
    clear hw hw1 hcon hn hgm hg hmw
    go_enter Tryd.func35, Tryd.ntmps35
    go_wp2_with (go_at_call 53; refine HC.out.mono ?_; rintro e w1 ⟨v0, rfl, hB1⟩)
    go_ret
    exact ⟨rfl, hB1⟩

theorem number_bound {l : List UInt8} {m n : Int} (h : number l m = some n) : 0 ≤ n ∧ n ≤ m := by
  unfold number at h
  split at h
  · cases h
  · split at h
    · cases h
    · split at h
      · split at h
        · cases h
        · cases h
          omega
      · cases h

theorem numbers_two {ws : List (List UInt8)} {m1 m2 a b : Int} (h : numbers ws [m1, m2] = some [a, b]) : (0 ≤ a ∧ a ≤ m1) ∧ (0 ≤ b ∧ b ≤ m2) := by
  match ws, h with
  | [x, y], h =>
    rw [numbers_cons] at h
    cases hx : number x m1 with
    | none => rw [hx] at h; cases h
    | some n1 =>
      rw [hx, numbers_cons] at h
      cases hy : number y m2 with
      | none => rw [hy] at h; cases h
      | some n2 =>
        rw [hy] at h
        simp [numbers] at h
        obtain ⟨rfl, rfl⟩ := h
        exact ⟨number_bound hx, number_bound hy⟩
  | [], h => cases h
  | [x], h => rw [numbers_cons] at h; cases hx : number x m1 <;> rw [hx] at h <;> cases h
  | x :: y :: z :: r, h =>
    rw [numbers_cons] at h
    cases hx : number x m1 with
    | none => rw [hx] at h; cases h
    | some n1 => rw [hx, numbers_cons] at h; cases hy : number y m2 <;> rw [hy] at h <;> cases h

/-- what size leaves where it is told yes -/
def SizeYes (w : World) (B0 rb : Nat) (v : Value) (t : St) (w' : World) : Prop := Rdr w' B0 rb v t ∧ Below B0 w w' ∧ Kept w w' (fun k => k = rb)

theorem size_fin {t : St} {B0 rb : Nat} {v : Value} {w w1 : World} {a b : Int} (h : Rdr w B0 rb v t) (hB1 : Below w.heap.size w w1) (ha : 0 ≤ a ∧ a ≤ 16777216) (hb : 0 ≤ b ∧ b ≤ 67108864) :
    SizeYes w B0 rb v { t with n := a, many := b } ((w1.setCell ⟨rb, 0, none⟩ (.int .i64 a)).setCell ⟨rb, 2, none⟩ (.int .i64 b)).drew := by
  have hrb : rb < w.heap.size := blk_lt h.blk
  have hbase := h.base
  have hblk : w1.heap[rb]? = some (.cells #[.int .i64 t.n, v, .int .i64 t.many] 54 (0, 0)) := (hB1.block rb hrb).trans h.blk
  have b1 := blk_set hblk 0 (.int .i64 a)
  have b2 := blk_set b1 2 (.int .i64 b)
  have r1 := Kd.R_below h.arcs hB1
  have r2 := Kd.R_set r1 hblk (by decide) 0 (.int .i64 a)
  have r3 := Kd.R_set r2 b1 (by decide) 2 (.int .i64 b)
  refine ⟨⟨b2, Kd.R_drew r3, hbase, ha.1, ha.2, by have := hb.1; simp; omega, hb.2, h.len⟩, ?_, ?_⟩
  · exact (((hB1.mono (by omega)).setCell (p := ⟨rb, 0, none⟩) hbase _).setCell (p := ⟨rb, 2, none⟩) hbase _).drew
  · refine ⟨by simpa [World.setCell] using hB1.size, fun i hi hne => ?_⟩
    exact ((Below.heap_setCell _ _ _ i hne).trans (Below.heap_setCell _ _ _ i hne)).trans (hB1.block i hi)

set_option maxHeartbeats 1000000 in
theorem size_yes (t : St) (c : Nat) (x : ByteArray) (ws : List ByteArray) (ad : Addr) (m : Nat) (hmw : ws.length = m) (B0 rb : Nat) (v : Value) (w : World) (h : Rdr w B0 rb v t) (hm : t.many < 0) (hc : w.cell? ad = some (.string x)) (hx : (x.toList == [115, 112]) = true)
    (hg : (x :: ws).length ≤ c) (hw : Kd.C Kd.string w (some ad) (x :: ws).length (x :: ws)) (a b : Int) (hn : numbers (ws.map bytes) [16777216, 67108864] = some [a, b]) :
    Calls Tryd.prog 35 #[.pointer (some ⟨rb, 0, none⟩), .slice (some ad) (m + 1) c] w fun e w' => e = .returned (.bool true) ∧ SizeYes w B0 rb v { t with n := a, many := b } w' := by
  obtain ⟨c0, c1, c2, f0, f1, f2⟩ := h.cells
  have hb : (((m : Int) + 1) == 0) = false := by rw [beq_eq_false_iff_ne]; omega
  have hcon : ∀ A1 c1, ws.length ≤ c1 → Kd.C Kd.string w A1 ws.length ws → Calls Tryd.prog 53 #[.slice A1 m c1, .slice (some ⟨w.heap.size, 0, none⟩) 2 2] (w.alloc (.cells #[.int .i64 16777216, .int .i64 67108864] 3)) fun e w' =>
      ∃ g cap, e = .returned (.tuple #[.slice (some ⟨g, 0, none⟩) 2 cap, .bool true]) ∧ Below w.heap.size w w' ∧ w.heap.size ≤ g ∧ w'.cell? ⟨g, 0, none⟩ = some (.int .i64 a) ∧ w'.cell? ⟨g, 1, none⟩ = some (.int .i64 b) := by
    intro A1 c1 hc1 hw1
    have := numbers_any ws [16777216, 67108864] (by decide) A1 _ c1 2 _ (Kd.C_alloc hw1 (.cells #[.int .i64 16777216, .int .i64 67108864] 3)) hc1 (lit2 w 16777216 67108864) (by simp)
    rw [hn, hmw] at this
    refine this.mono ?_
    rintro e w' ⟨v0, rfl, hR, hb1⟩
    obtain ⟨g, cap, rfl, hgb, _, q0, q1⟩ := two_cells hR
    exact ⟨g, cap, rfl, ((Below.refl _ w).alloc (Nat.le_refl _) _).trans (hb1.mono (by simp)), by simp at hgb; omega, q0, q1⟩
  have hgm : ws.length ≤ c - 1 := by simp at hg; omega
  have hH := Lib.hid h
  have HA := Lib.hid (numbers_two hn)
  have hrb : rb < w.heap.size := blk_lt h.blk
  rcases cut_str hg hw with ⟨rfl, hw1⟩ | ⟨hc1, hw1⟩
  · have HC := Lib.hid (hcon _ _ hgm hw1)
    clear hw hw1 hcon hn hgm hg hmw h
    go_enter Tryd.func35, Tryd.ntmps35
    go_wp2_with (go_at_call 53; refine HC.out.mono ?_; rintro e w1 ⟨g, cap, rfl, hB1, hgb, q0, q1⟩; have c0' := (hB1.cell (p := ⟨rb, 0, none⟩) hrb).trans c0; have c2' := (hB1.cell (p := ⟨rb, 2, none⟩) hrb).trans c2; have f0' := (hB1.frozen (p := ⟨rb, 0, none⟩) hrb).trans f0; have f2' := (hB1.frozen (p := ⟨rb, 2, none⟩) hrb).trans f2)
    go_region
    all_goals go_wp2
    go_ret
    refine ⟨rfl, ?_⟩
    exact size_fin hH.out hB1 HA.out.1 HA.out.2
  · have HC := Lib.hid (hcon _ _ hgm hw1)
    clear hw hw1 hcon hn hgm hg hmw h
    go_enter Tryd.func35, Tryd.ntmps35
    go_wp2_with (go_at_call 53; refine HC.out.mono ?_; rintro e w1 ⟨g, cap, rfl, hB1, hgb, q0, q1⟩; have c0' := (hB1.cell (p := ⟨rb, 0, none⟩) hrb).trans c0; have c2' := (hB1.cell (p := ⟨rb, 2, none⟩) hrb).trans c2; have f0' := (hB1.frozen (p := ⟨rb, 0, none⟩) hrb).trans f0; have f2' := (hB1.frozen (p := ⟨rb, 2, none⟩) hrb).trans f2)
    go_region
    all_goals go_wp2
    go_ret
    refine ⟨rfl, ?_⟩
    exact size_fin hH.out hB1 HA.out.1 HA.out.2

end Go.Proofs.YtegikndkokemjaaDoor.PAll
