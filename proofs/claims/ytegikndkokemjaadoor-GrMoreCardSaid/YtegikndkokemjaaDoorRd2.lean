import Derived.Test.YtegikndkokemjaaDoorRd1
import Derived.Deep.RegionWith
import Derived.BigRegion
import Derived.Deep.RegionLaw
namespace Go.Proofs.YtegikndkokemjaaDoor.PAll
open Go.RowKit Go.Proofs.YtegikndkokemjaaDoorW.PrintWords Go.Proofs.YtegikndkokemjaaDoorW.PrintLast Go.Proofs.YtegikndkokemjaaDoorW.PrintMore
open GrFn

/-- what a reader's step leaves: the new state where there is one; else as it was -/
def StepTo (w : World) (B0 rb : Nat) (v : Value) (t : St) (o : Option St) (e : Ending) (w' : World) : Prop :=
  e = .returned (.bool o.isSome) ∧ ∃ v', Rdr w' B0 rb v' (o.getD t) ∧ Below B0 w w' ∧ Kept w w' (fun k => k = rb ∨ some k = v.ownBlock)

theorem step_same {w w' : World} {B0 rb : Nat} {v : Value} {t : St} (h : Rdr w B0 rb v t) (hb : Below w.heap.size w w') : StepTo w B0 rb v t none (.returned (.bool false)) w' := by
  have hrb : rb < w.heap.size := blk_lt h.blk
  have hbase := h.base
  exact ⟨rfl, v, ⟨(hb.block rb hrb).trans h.blk, Kd.R_below h.arcs hb, h.base, h.n0, h.n1, h.m0, h.m1, h.len⟩, hb.mono (by omega), Kept.of_below hb _⟩

theorem size_spec_many {t : St} {ws : List (List UInt8)} (h : 0 ≤ t.many) : GrFn.size t ws = none := by
  cases ws with
  | nil => rfl
  | cons x r => simp only [GrFn.size]; rw [if_pos h]

theorem numbers_length : ∀ {ws : List (List UInt8)} {ms l : List Int}, numbers ws ms = some l → l.length = ms.length
  | [], [], l, h => by cases h; rfl
  | [], _ :: _, _, h => by cases h
  | _ :: _, [], _, h => by cases h
  | w :: ws, m :: ms, l, h => by
    rw [numbers_cons] at h
    cases hx : number w m with
    | none => rw [hx] at h; cases h
    | some n =>
      rw [hx] at h
      cases hy : numbers ws ms with
      | none => rw [hy] at h; cases h
      | some r =>
        rw [hy] at h
        cases h
        simp [numbers_length hy]

theorem toList_eq (x : ByteArray) : x.toList = bytes x := Lib.toList_data x

theorem size_any (t : St) (A : Option Addr) (c : Nat) (ws : List ByteArray) (B0 rb : Nat) (v : Value) (w : World) (h : Rdr w B0 rb v t) (hw : Kd.C Kd.string w A ws.length ws) (hg : ws.length ≤ c) :
    Calls Tryd.prog 35 #[.pointer (some ⟨rb, 0, none⟩), .slice A ws.length c] w fun e w' => StepTo w B0 rb v t (GrFn.size t (ws.map bytes)) e w' := by
  by_cases hm : 0 ≤ t.many
  · rw [size_spec_many hm]
    refine (size_no1 t A c ws B0 rb v w h hm).mono ?_
    rintro e w' ⟨rfl, hb⟩
    exact step_same h hb
  · have hm' : t.many < 0 := by omega
    cases ws with
    | nil =>
      refine (size_no2 t A c B0 rb v w h hm').mono ?_
      rintro e w' ⟨rfl, hb⟩
      exact step_same h hb
    | cons x ws =>
      obtain ⟨ad, rfl, hc⟩ := word0 hw
      simp only [List.map_cons, GrFn.size]
      rw [if_neg (by omega)]
      by_cases hx : bytes x = [115, 112]
      · rw [if_pos hx]
        have hx' : (x.toList == [115, 112]) = true := by rw [toList_eq, hx]; rfl
        cases hn : numbers (ws.map bytes) [16777216, 67108864] with
        | none =>
          refine (size_no4 t c x ws ad ws.length rfl B0 rb v w h hm' hc hx' hg hw hn).mono ?_
          rintro e w' ⟨rfl, hb⟩
          exact step_same h hb
        | some l =>
          have hl := numbers_length hn
          match l, hl with
          | [a, b], _ =>
            refine (size_yes t c x ws ad ws.length rfl B0 rb v w h hm' hc hx' hg hw a b hn).mono ?_
            rintro e w' ⟨rfl, h1, h2, h3⟩
            exact ⟨rfl, v, h1, h2, h3.mono (fun k hk => .inl hk)⟩
      · rw [if_neg hx]
        have hx' : (x.toList == [115, 112]) = false := by rw [toList_eq]; simpa using hx
        refine (size_no3 t c x ad ws.length B0 rb v w h hm' hc hx').mono ?_
        rintro e w' ⟨rfl, hb⟩
        exact step_same h hb

/-- gr.numbers at three bounds, out of reader.arc -/
theorem arc_numbers (t : St) (A : Option Addr) (c : Nat) (ws : List ByteArray) (w : World) (hw : Kd.C Kd.string w A ws.length ws) (hg : ws.length ≤ c) :
    Calls Tryd.prog 53 #[.slice A ws.length c, .slice (some ⟨w.heap.size, 0, none⟩) 3 3] (w.alloc (.cells #[.int .i64 t.n, .int .i64 t.n, .int .i64 2147483648] 3)).drew fun e w' =>
      ∃ v0, e = .returned (.tuple #[v0, .bool (numAns (numbers (ws.map bytes) [t.n, t.n, 2147483648])).2]) ∧ Kd.R (Kd.int .i64) 3 w' (w.heap.size + 1) (fun _ => True) v0 (numAns (numbers (ws.map bytes) [t.n, t.n, 2147483648])).1 ∧ Below w.heap.size w w' := by
  refine (numbers_any ws [t.n, t.n, 2147483648] (by simp) A _ c 3 _ (Kd.C_drew (Kd.C_alloc hw (.cells #[.int .i64 t.n, .int .i64 t.n, .int .i64 2147483648] 3))) hg (Kd.C_drew (lit3 w t.n t.n 2147483648)) (by simp)).mono ?_
  rintro e w' ⟨v0, rfl, hR, hb1⟩
  exact ⟨v0, rfl, by simpa using hR, ((Below.refl _ w).alloc (Nat.le_refl _) _).drew.trans (hb1.mono (by simp))⟩

set_option maxRecDepth 100000 in
set_option maxHeartbeats 1000000 in
theorem arc_no1 (t : St) (A : Option Addr) (c : Nat) (ws : List ByteArray) (B0 rb : Nat) (v : Value) (w : World) (h : Rdr w B0 rb v t) (hw : Kd.C Kd.string w A ws.length ws) (hg : ws.length ≤ c)
    (hn : numbers (ws.map bytes) [t.n, t.n, 2147483648] = none) :
    Calls Tryd.prog 36 #[.pointer (some ⟨rb, 0, none⟩), .slice A ws.length c] w fun e w' => e = .returned (.bool false) ∧ Below w.heap.size w w' := by
  obtain ⟨c0, c1, c2, f0, f1, f2⟩ := h.cells
  have hcon : Calls Tryd.prog 53 #[.slice A ws.length c, .slice (some ⟨w.heap.size, 0, none⟩) 3 3] (w.alloc (.cells #[.int .i64 t.n, .int .i64 t.n, .int .i64 2147483648] 3)).drew fun e w' =>
      ∃ v0, e = .returned (.tuple #[v0, .bool false]) ∧ Below w.heap.size w w' := by
    have := arc_numbers t A c ws w hw hg
    rw [hn] at this
    exact this.mono fun e w' ⟨v0, he, _, hb⟩ => ⟨v0, he, hb⟩
  obtain ⟨m, hm⟩ : ∃ m, ws.length = m := ⟨_, rfl⟩
  rw [hm] at hcon ⊢
  have HC := Lib.hid hcon
  clear hcon hn hw hg hm
  go_enter Tryd.func36, Tryd.ntmps36
  go_upto_region 1 with (fail)
  go_cut [5, 6] (fun v5 v6 wc => ∃ v0, v5 = v0 ∧ v6 = .bool false ∧ Below w.heap.size w wc)
  case first =>
    go_region_with (go_at_call 53; refine HC.out.mono ?_; rintro e w1 ⟨v0, rfl, hB1⟩)
    all_goals (try go_wp2_with fail)
    all_goals go_meet
    all_goals exact ⟨v0, rfl, rfl, hB1⟩
  case rest =>
    obtain ⟨v0, rfl, rfl, hB1⟩ := hcut
    go_wp2_with fail
    go_quiet (fail)
    go_wp2
    go_ret
    exact ⟨rfl, pw_below_drewN hB1 _⟩

/-- what arc's three numbers leave -/
theorem arc_three (t : St) (A : Option Addr) (c : Nat) (ws : List ByteArray) (B0 rb : Nat) (v : Value) (w : World) (h : Rdr w B0 rb v t) (hw : Kd.C Kd.string w A ws.length ws) (hg : ws.length ≤ c) {x y z : Int} (hn : numbers (ws.map bytes) [t.n, t.n, 2147483648] = some [x, y, z]) :
    Calls Tryd.prog 53 #[.slice A ws.length c, .slice (some ⟨w.heap.size, 0, none⟩) 3 3] (w.alloc (.cells #[.int .i64 t.n, .int .i64 t.n, .int .i64 2147483648] 3)).drew fun e w' =>
      ∃ g cap, e = .returned (.tuple #[.slice (some ⟨g, 0, none⟩) 3 cap, .bool true]) ∧ Rdr w' B0 rb v t ∧ Below w.heap.size w w' ∧ w.heap.size ≤ g ∧ w'.cell? ⟨g, 0, none⟩ = some (.int .i64 x) ∧ w'.cell? ⟨g, 1, none⟩ = some (.int .i64 y) ∧ w'.cell? ⟨g, 2, none⟩ = some (.int .i64 z) := by
  have := arc_numbers t A c ws w hw hg
  rw [hn] at this
  refine this.mono ?_
  rintro e w' ⟨v0, rfl, hR, hb⟩
  obtain ⟨g, cap, rfl, hgb, _, q0, q1, q2⟩ := three_cells hR
  have hrb : rb < w.heap.size := blk_lt h.blk
  exact ⟨g, cap, rfl, ⟨(hb.block rb hrb).trans h.blk, Kd.R_below h.arcs hb, h.base, h.n0, h.n1, h.m0, h.m1, h.len⟩, hb, by omega, q0, q1, q2⟩

set_option maxRecDepth 100000 in
set_option maxHeartbeats 1000000 in
theorem arc_no2 (t : St) (A : Option Addr) (c : Nat) (ws : List ByteArray) (B0 rb : Nat) (v : Value) (w : World) (h : Rdr w B0 rb v t) (hw : Kd.C Kd.string w A ws.length ws) (hg : ws.length ≤ c)
    (x y z : Int) (hn : numbers (ws.map bytes) [t.n, t.n, 2147483648] = some [x, y, z]) (hx : (x == 0) = true) :
    Calls Tryd.prog 36 #[.pointer (some ⟨rb, 0, none⟩), .slice A ws.length c] w fun e w' => e = .returned (.bool false) ∧ Below w.heap.size w w' := by
  obtain ⟨c0, c1, c2, f0, f1, f2⟩ := h.cells
  have hcon := arc_three t A c ws B0 rb v w h hw hg hn
  obtain ⟨m, hm⟩ : ∃ m, ws.length = m := ⟨_, rfl⟩
  rw [hm] at hcon ⊢
  have HC := Lib.hid hcon
  clear hcon hn hw hg hm
  go_enter Tryd.func36, Tryd.ntmps36
  go_upto_region 1 with (fail)
  go_cut [5, 6] (fun v5 v6 wc => ∃ g cap, v5 = .slice (some ⟨g, 0, none⟩) 3 cap ∧ v6 = .bool true ∧ Rdr wc B0 rb v t ∧ Below w.heap.size w wc ∧ wc.cell? ⟨g, 0, none⟩ = some (.int .i64 x) ∧ wc.cell? ⟨g, 1, none⟩ = some (.int .i64 y))
  case first =>
    go_region_with (go_at_call 53; refine HC.out.mono ?_; rintro e w1 ⟨g, cap, rfl, hR1, hB1, hgb, q0, q1, q2⟩)
    all_goals (try go_wp2_with fail)
    all_goals go_meet
    all_goals exact ⟨g, cap, rfl, rfl, hR1, hB1, q0, q1⟩
  case rest =>
    obtain ⟨g, cap, rfl, rfl, hR1, hB1, q0, q1⟩ := hcut
    clear c0 c1 c2 f0 f1 f2
    obtain ⟨c0, c1, c2, f0, f1, f2⟩ := hR1.cells

    go_wp2_with fail
    go_quiet (fail)
    go_wp2
    go_ret
    exact ⟨rfl, pw_below_drewN hB1 _⟩

set_option maxRecDepth 100000 in
set_option maxHeartbeats 1000000 in
theorem arc_no3 (t : St) (A : Option Addr) (c : Nat) (ws : List ByteArray) (B0 rb : Nat) (v : Value) (w : World) (h : Rdr w B0 rb v t) (hw : Kd.C Kd.string w A ws.length ws) (hg : ws.length ≤ c)
    (x y z : Int) (hn : numbers (ws.map bytes) [t.n, t.n, 2147483648] = some [x, y, z]) (hx : (x == 0) = false) (hy : (y == 0) = true) :
    Calls Tryd.prog 36 #[.pointer (some ⟨rb, 0, none⟩), .slice A ws.length c] w fun e w' => e = .returned (.bool false) ∧ Below w.heap.size w w' := by
  obtain ⟨c0, c1, c2, f0, f1, f2⟩ := h.cells
  have hcon := arc_three t A c ws B0 rb v w h hw hg hn
  obtain ⟨m, hm⟩ : ∃ m, ws.length = m := ⟨_, rfl⟩
  rw [hm] at hcon ⊢
  have HC := Lib.hid hcon
  clear hcon hn hw hg hm
  go_enter Tryd.func36, Tryd.ntmps36
  go_upto_region 1 with (fail)
  go_cut [5, 6] (fun v5 v6 wc => ∃ g cap, v5 = .slice (some ⟨g, 0, none⟩) 3 cap ∧ v6 = .bool true ∧ Rdr wc B0 rb v t ∧ Below w.heap.size w wc ∧ wc.cell? ⟨g, 0, none⟩ = some (.int .i64 x) ∧ wc.cell? ⟨g, 1, none⟩ = some (.int .i64 y))
  case first =>
    go_region_with (go_at_call 53; refine HC.out.mono ?_; rintro e w1 ⟨g, cap, rfl, hR1, hB1, hgb, q0, q1, q2⟩)
    all_goals (try go_wp2_with fail)
    all_goals go_meet
    all_goals exact ⟨g, cap, rfl, rfl, hR1, hB1, q0, q1⟩
  case rest =>
    obtain ⟨g, cap, rfl, rfl, hR1, hB1, q0, q1⟩ := hcut
    clear c0 c1 c2 f0 f1 f2
    obtain ⟨c0, c1, c2, f0, f1, f2⟩ := hR1.cells

    go_wp2_with fail
    go_quiet (fail)
    go_wp2
    go_ret
    exact ⟨rfl, pw_below_drewN hB1 _⟩

set_option maxRecDepth 100000 in
set_option maxHeartbeats 1000000 in
theorem arc_no4 (t : St) (A : Option Addr) (c : Nat) (ws : List ByteArray) (B0 rb : Nat) (v : Value) (w : World) (h : Rdr w B0 rb v t) (hw : Kd.C Kd.string w A ws.length ws) (hg : ws.length ≤ c)
    (x y z : Int) (hn : numbers (ws.map bytes) [t.n, t.n, 2147483648] = some [x, y, z]) (hx : (x == 0) = false) (hy : (y == 0) = false) (hlen : t.many ≤ (t.arcs.length : Int)) :
    Calls Tryd.prog 36 #[.pointer (some ⟨rb, 0, none⟩), .slice A ws.length c] w fun e w' => e = .returned (.bool false) ∧ Below w.heap.size w w' := by
  obtain ⟨c0, c1, c2, f0, f1, f2⟩ := h.cells
  have hcon := arc_three t A c ws B0 rb v w h hw hg hn
  obtain ⟨m, hm⟩ : ∃ m, ws.length = m := ⟨_, rfl⟩
  rw [hm] at hcon ⊢
  have HC := Lib.hid hcon
  clear hcon hn hw hg hm
  go_enter Tryd.func36, Tryd.ntmps36
  go_upto_region 1 with (fail)
  go_cut [5, 6] (fun v5 v6 wc => ∃ g cap, v5 = .slice (some ⟨g, 0, none⟩) 3 cap ∧ v6 = .bool true ∧ Rdr wc B0 rb v t ∧ Below w.heap.size w wc ∧ wc.cell? ⟨g, 0, none⟩ = some (.int .i64 x) ∧ wc.cell? ⟨g, 1, none⟩ = some (.int .i64 y))
  case first =>
    go_region_with (go_at_call 53; refine HC.out.mono ?_; rintro e w1 ⟨g, cap, rfl, hR1, hB1, hgb, q0, q1, q2⟩)
    all_goals (try go_wp2_with fail)
    all_goals go_meet
    all_goals exact ⟨g, cap, rfl, rfl, hR1, hB1, q0, q1⟩
  case rest =>
    obtain ⟨g, cap, rfl, rfl, hR1, hB1, q0, q1⟩ := hcut
    clear c0 c1 c2 f0 f1 f2
    obtain ⟨c0, c1, c2, f0, f1, f2⟩ := hR1.cells
    obtain ⟨A1, cap1, rfl, hl1, _⟩ := Kd.R_reads hR1.arcs
    rw [List.length_map] at *
    go_wp2_with fail
    go_quiet (fail)
    go_wp2
    go_ret
    exact ⟨rfl, pw_below_drewN hB1 _⟩

end Go.Proofs.YtegikndkokemjaaDoor.PAll
