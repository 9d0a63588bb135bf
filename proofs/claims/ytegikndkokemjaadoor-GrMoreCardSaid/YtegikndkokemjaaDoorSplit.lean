import Derived.Test.YtegikndkokemjaaDoorShelf
import Derived.Test.YtegikndkokemjaaDoorGrFn
import Derived.Test.YtegikndkokemjaaDoorRange
import Derived.RangeFuncNested
import Derived.RangeFuncBound
import Derived.RangeFuncCalls
import Derived.RangeFuncLeaves
import Derived.RangeFuncBox
import Derived.Shelf.Abstract
import Derived.Shelf.RegionOpen
import Derived.WalkKit
import Derived.OwnWalkIn
import Derived.TacticsInMore
import Derived.LoopNIn
import Derived.LoopIn
import Derived.Lib.Hide
namespace Go.Proofs.YtegikndkokemjaaDoor.Split
open Go.RowKit Go.Shelf Go.Lib GrFn Range
attribute [local go_sem] Oper.semAt_some

/-- what strings.SplitSeq gives, one after the other -/
def frags (c : UInt8) (s : ByteArray) : List ByteArray := (cutAt c s.data.toList).map fun l => ⟨l.toArray⟩

theorem cutAt_ne (c : UInt8) (l : List UInt8) : cutAt c l ≠ [] := by
  cases l with
  | nil => simp [cutAt]
  | cons a r =>
    unfold cutAt
    split
    · simp
    · split <;> simp

theorem cutAt_none (c : UInt8) (l : List UInt8) (h : c ∉ l) : cutAt c l = [l] := by
  induction l with
  | nil => rfl
  | cons a r ih =>
    simp only [List.mem_cons, not_or] at h
    unfold cutAt
    rw [if_neg (fun e => h.1 e.symm), ih h.2]

theorem cutAt_at (c : UInt8) (a b : List UInt8) (h : c ∉ a) : cutAt c (a ++ c :: b) = a :: cutAt c b := by
  induction a with
  | nil => simp [cutAt]
  | cons x r ih =>
    simp only [List.mem_cons, not_or] at h
    rw [List.cons_append, cutAt, if_neg (fun e => h.1 e.symm), ih h.2]

theorem idx (s : ByteArray) (c : UInt8) (w : World) :
    Calls Tryd.prog 52 #[.string s, .string ⟨#[c]⟩] w fun e w' => e = .returned (.int .i64 (Lib.indexByte s.data.toList c)) ∧ w = w' :=
  (Any.strings_Index_one Tryd.lays143 s c w).mono fun _ _ h => ⟨h.1, h.2.symm⟩

theorem idx_none {l : List UInt8} {c : UInt8} (h : Lib.indexByte l c = -1) : c ∉ l := fun hc => by
  obtain ⟨k, hk⟩ := List.getElem?_of_mem hc
  exact Lib.indexByte_none h k hk

theorem idx_some {l : List UInt8} {c : UInt8} {k : Nat} (h : Lib.indexByte l c = k) : k < l.length ∧ l = l.take k ++ c :: l.drop (k + 1) ∧ c ∉ l.take k := by
  obtain ⟨h1, h2⟩ := Lib.indexByte_some h
  have hk : k < l.length := (List.getElem?_eq_some_iff.1 h1).1
  refine ⟨hk, ?_, ?_⟩
  · have : l[k] = c := (List.getElem?_eq_some_iff.1 h1).2
    rw [← this, List.getElem_cons_drop, List.take_append_drop]
  · intro hc
    obtain ⟨j, hj⟩ := List.getElem?_of_mem hc
    have hjl := (List.getElem?_eq_some_iff.1 hj).1
    rw [List.length_take] at hjl
    rw [List.getElem?_take_of_lt (by omega)] at hj
    exact h2 j (by omega) hj

/-- what is not yet given -/
noncomputable def left (B : Nat) (W : World) : Nat := match W.cell? ⟨B, 0, none⟩ with | some (.string r) => r.size | _ => 0

/-- one round keeps the iterator's three variables -/
def Keeps (B : Nat) (W W' : World) : Prop := ∀ k, B ≤ k → k < B + 3 → W'.heap[k]? = W.heap[k]?

theorem Keeps.cell {B : Nat} {W W' : World} (h : Keeps B W W') {k : Nat} (h1 : B ≤ k) (h2 : k < B + 3) : W'.cell? ⟨k, 0, none⟩ = W.cell? ⟨k, 0, none⟩ := World.cell?_of_block (w := W) (h k h1 h2)
theorem Keeps.frozen {B : Nat} {W W' : World} (h : Keeps B W W') {k : Nat} (h1 : B ≤ k) (h2 : k < B + 3) : W'.frozen? ⟨k, 0, none⟩ = W.frozen? ⟨k, 0, none⟩ := World.frozen?_of_block (w := W) (h k h1 h2)

theorem idx_no (s : ByteArray) (c : UInt8) (w : World) (h : Lib.indexByte s.data.toList c = -1) :
    Calls Tryd.prog 52 #[.string s, .string ⟨#[c]⟩] w fun e w' => e = .returned (.int .i64 (-1)) ∧ w = w' :=
  (idx s c w).mono fun _ _ ⟨he, hw⟩ => ⟨by rw [he, h], hw⟩
theorem idx_at (s : ByteArray) (c : UInt8) (k : Nat) (w : World) (h : Lib.indexByte s.data.toList c = k) :
    Calls Tryd.prog 52 #[.string s, .string ⟨#[c]⟩] w fun e w' => e = .returned (.int .i64 k) ∧ w = w' :=
  (idx s c w).mono fun _ _ ⟨he, hw⟩ => ⟨by rw [he, h], hw⟩

theorem extract_list (s : ByteArray) (a b : Nat) : (s.extract a b).data.toList = (s.data.toList.take b).drop a := by
  rw [ByteArray.data_extract, Array.toList_extract, List.extract_eq_take_drop, List.take_drop]
  by_cases h : a ≤ b
  · congr 2; omega
  · rw [List.drop_eq_nil_of_le (by simp; omega), List.drop_eq_nil_of_le (by simp; omega)]

theorem frags_none (c : UInt8) (r : ByteArray) (h : c ∉ r.data.toList) : frags c r = [r] := by
  unfold frags
  rw [cutAt_none c _ h]
  rfl

theorem frags_at (c : UInt8) (r : ByteArray) (k : Nat) (h : Lib.indexByte r.data.toList c = k) : k + 1 ≤ r.size ∧ frags c r = r.extract 0 k :: frags c (r.extract (k + 1) r.size) := by
  obtain ⟨h1, h2, h3⟩ := idx_some h
  have hs := Lib.size_eq r
  refine ⟨by omega, ?_⟩
  unfold frags
  rw [extract_list]
  conv => lhs; rw [h2, cutAt_at c _ _ h3]
  rw [List.map_cons]
  congr 1
  · have : (r.extract 0 k).data.toList = r.data.toList.take k := by rw [extract_list]; simp
    rw [← this]
  · rw [hs, List.take_length]

/-- what holds between two rounds -/
def Rel (c : UInt8) (s : ByteArray) (B : Nat) (J : List ByteArray → World → Prop) (wr : World) : Prop :=
  ∃ (pre : List ByteArray) (r : ByteArray), frags c s = pre ++ frags c r ∧ r.size ≤ 2147483648 ∧ Boxed wr B 9 (.string r) ∧ Boxed wr (B + 1) 9 (.string ⟨#[c]⟩) ∧ Boxed wr (B + 2) 3 (.int .i64 0) ∧ J pre wr

theorem left_at {B : Nat} {W : World} {r : ByteArray} (h : Boxed W B 9 (.string r)) : left B W = r.size := by
  unfold left
  rw [h.cell]

theorem next_rel {c : UInt8} {s r : ByteArray} {B k : Nat} {J : List ByteArray → World → Prop} {wr W3 : World} {pre : List ByteArray} (hJc : ∀ s W v, J s W → J s (W.setCell ⟨B, 0, none⟩ v))
    (hrs : r.size ≤ 2147483648) (hkr : k + 1 ≤ r.size) (hx : frags c s = pre ++ r.extract 0 k :: frags c (r.extract (k + 1) r.size)) (b0 : Boxed wr B 9 (.string r)) (b1 : Boxed wr (B + 1) 9 (.string ⟨#[c]⟩)) (b2 : Boxed wr (B + 2) 3 (.int .i64 0))
    (hk3 : Keeps B wr W3) (hJ3 : J (pre ++ [r.extract 0 k]) W3) :
    Rel c s B J (W3.setCell ⟨B, 0, none⟩ (.string (r.extract (k + 1) r.size))) ∧ left B (W3.setCell ⟨B, 0, none⟩ (.string (r.extract (k + 1) r.size))) < left B wr := by
  have b0' : Boxed W3 B 9 (.string r) := (hk3 B (by omega) (by omega)).trans b0
  have b1' : Boxed W3 (B + 1) 9 (.string ⟨#[c]⟩) := (hk3 (B + 1) (by omega) (by omega)).trans b1
  have b2' : Boxed W3 (B + 2) 3 (.int .i64 0) := (hk3 (B + 2) (by omega) (by omega)).trans b2
  have hsz : (r.extract (k + 1) r.size).size ≤ r.size - (k + 1) := by rw [ByteArray.size_extract]; omega
  refine ⟨⟨pre ++ [r.extract 0 k], r.extract (k + 1) r.size, ?_, by omega, b0'.set _, b1'.other (by omega) _, b2'.other (by omega) _, hJc _ _ _ hJ3⟩, ?_⟩
  · rw [hx]; simp
  · rw [left_at (b0'.set _), left_at b0]
    omega

set_option maxRecDepth 100000 in
set_option maxHeartbeats 1000000 in
theorem split1_in (n : Nat) (hn : 1 ≤ n) (l B : Nat) (c : UInt8) (s : ByteArray) (hs : s.size ≤ 2147483648) (J Jx : List ByteArray → World → Prop)
    (hJc : ∀ s W v, J s W → J s (W.setCell ⟨B, 0, none⟩ v))
    (hY : ∀ pre x W, J pre W → pre.length < (frags c s).length → x.size ≤ 2147483648 → YieldAt Fence.wide (n - 1) Tryd.prog l #[.string x] W fun e W' =>
      (e = .returned (.bool true) ∧ J (pre ++ [x]) W' ∧ Keeps B W W') ∨ (e = .returned (.bool false) ∧ Jx (pre ++ [x]) W'))
    (W : World) (h0 : Boxed W B 9 (.string s)) (h1 : Boxed W (B + 1) 9 (.string ⟨#[c]⟩)) (h2 : Boxed W (B + 2) 3 (.int .i64 0)) (hJ0 : J [] W) :
    CallsIn Fence.wide n Tryd.prog 50 #[.func (.yield l) #[] #[], .pointer (some ⟨B + 1, 0, none⟩), .pointer (some ⟨B, 0, none⟩), .pointer (some ⟨B + 2, 0, none⟩)] W fun e W' => (∃ v, e = .returned v) ∧
      ((∃ ys, ys = frags c s ∧ J ys W') ∨ (∃ pre, pre <+: frags c s ∧ Jx pre W')) := by
  have c1 := h1.cell
  refine callsIn_of_wp Tryd.func50 rfl trivial ?_ rfl
  simp only [Tryd.ntmps50, List.size_toArray, List.length_cons, List.length_nil, Nat.reduceAdd, Nat.reduceSub, Array.replicate_succ, Array.replicate_zero, List.push_toArray, List.append_toArray, List.nil_append, List.cons_append]
  gi_wp2
  clear c1
  gi_loopw [7] (fun _ wr => Rel c s B J wr)
    (fun _ wr => left B wr)
  case atStart => exact ⟨[], s, rfl, hs, h0, h1, h2, hJ0⟩
  case round =>
    obtain ⟨pre, r, hx, hrs, b0, b1, b2, hJs⟩ := hrel
    have k0 := b0.cell
    have k1 := b1.cell
    have k2 := b2.cell
    have f0 := b0.frozen
    have hge := Lib.indexByte_ge r.data.toList c
    by_cases hi : Lib.indexByte r.data.toList c = -1
    · have hfr := frags_none c r (idx_none hi)
      rw [hfr] at hx
      obtain ⟨fn, tmps, assign, body, hy, hR⟩ := hY pre r wr hJs (by rw [hx]; simp) hrs
      have Hx := Lib.hid hx
      have HI := Lib.hid hi
      clear hx hi hfr
      gi_wp2_with (refine ⟨trivial, ?_⟩; gi_at_call 52; refine (callsIn_wide.2 (idx_no _ _ _ HI.out)).mono ?_; rintro e w' ⟨rfl, rfl⟩)
      refine hR.mono ?_
      rintro e W3 (⟨rfl, hJ3, hk3⟩ | ⟨rfl, hJx3⟩)
      · gi_wp2
        go_end0
        exact ⟨⟨_, rfl⟩, .inl ⟨_, Hx.out.symm, hJ3⟩⟩
      · gi_wp2
        go_end0
        exact ⟨⟨_, rfl⟩, .inr ⟨_, by rw [Hx.out]; exact List.prefix_refl _, hJx3⟩⟩
    · obtain ⟨k, hk⟩ : ∃ k : Nat, Lib.indexByte r.data.toList c = k := ⟨(Lib.indexByte r.data.toList c).toNat, by omega⟩
      obtain ⟨hkr, hfr⟩ := frags_at c r k hk
      rw [hfr] at hx
      obtain ⟨fn, tmps, assign, body, hy, hR⟩ := hY pre (r.extract 0 k) wr hJs (by rw [hx]; simp) (by rw [ByteArray.size_extract]; omega)
      have Hx := Lib.hid hx
      have HK := Lib.hid hk
      clear hx hk hfr hge hi
      gi_wp2_with (refine ⟨trivial, ?_⟩; gi_at_call 52; refine (callsIn_wide.2 (idx_at _ _ k _ HK.out)).mono ?_; rintro e w' ⟨rfl, rfl⟩)
      refine hR.mono ?_
      rintro e W3 (⟨rfl, hJ3, hk3⟩ | ⟨rfl, hJx3⟩)
      · have q0 := (hk3.cell (k := B) (by omega) (by omega)).trans k0
        have q1 := (hk3.cell (k := B + 1) (by omega) (by omega)).trans k1
        have g0 := (hk3.frozen (k := B) (by omega) (by omega)).trans f0
        gi_wp2
        have hfin := next_rel hJc hrs hkr Hx.out b0 b1 b2 hk3 hJ3
        go_roundw
        case rel => exact hfin.1
        case measure => exact hfin.2
      · gi_wp2
        refine bodyPost_ret (results_none rfl _ _ _) rfl ?_
        exact ⟨⟨_, rfl⟩, .inr ⟨_, ⟨frags c (r.extract (k + 1) r.size), by rw [Hx.out]; simp⟩, hJx3⟩⟩

/-- strings.SplitSeq's value keeps the contract, at whatever world in which its three variables lie as they were made -/
theorem split_seq (n : Nat) (hn : 1 ≤ n) (B : Nat) (c : UInt8) (s : ByteArray) (hs : s.size ≤ 2147483648) (w : World)
    (h0 : Boxed w B 9 (.string s)) (h1 : Boxed w (B + 1) 9 (.string ⟨#[c]⟩)) (h2 : Boxed w (B + 2) 3 (.int .i64 0)) :
    SeqCell Fence.wide n Tryd.prog 50 #[.pointer (some ⟨B + 1, 0, none⟩), .pointer (some ⟨B, 0, none⟩), .pointer (some ⟨B + 2, 0, none⟩)] (fun x : ByteArray => #[Value.string x]) (Keeps B)
      (fun ys => ys = frags c s) (fun pre => pre <+: frags c s) (frags c s).length B w := fun l J Jx W hW _ _ hJc _ hY hJ0 =>
  split1_in n hn l B c s hs J Jx hJc (fun pre x W h1 h2 _ => hY pre x W h1 h2) W ((hW.block _ h0.lt).trans h0) ((hW.block _ h1.lt).trans h1) ((hW.block _ h2.lt).trans h2) hJ0

/-- a string that is not too long -/
abbrev Short := { x : ByteArray // x.size ≤ 2147483648 }

/-- the same contract, where the body is told that what it is handed is not too long -/
theorem split_seq_short (n : Nat) (hn : 1 ≤ n) (B : Nat) (c : UInt8) (s : ByteArray) (hs : s.size ≤ 2147483648) (w : World)
    (h0 : Boxed w B 9 (.string s)) (h1 : Boxed w (B + 1) 9 (.string ⟨#[c]⟩)) (h2 : Boxed w (B + 2) 3 (.int .i64 0)) :
    SeqCell Fence.wide n Tryd.prog 50 #[.pointer (some ⟨B + 1, 0, none⟩), .pointer (some ⟨B, 0, none⟩), .pointer (some ⟨B + 2, 0, none⟩)] (fun x : Short => #[Value.string x.1]) (Keeps B)
      (fun ys => ys.map (·.1) = frags c s) (fun pre => pre.map (·.1) <+: frags c s) (frags c s).length B w := fun l J Jx W hW _ _ hJc _ hY hJ0 => by
  refine (split1_in n hn l B c s hs (fun pre W => ∃ pre' : List Short, pre'.map (·.1) = pre ∧ J pre' W) (fun pre W => ∃ pre' : List Short, pre'.map (·.1) = pre ∧ Jx pre' W)
    (fun pre W v ⟨pre', e, h⟩ => ⟨pre', e, hJc _ _ _ h⟩) ?_ W ((hW.block _ h0.lt).trans h0) ((hW.block _ h1.lt).trans h1) ((hW.block _ h2.lt).trans h2) ⟨[], rfl, hJ0⟩).mono ?_
  · rintro pre x W1 ⟨pre', rfl, hj⟩ hl hx
    have hl' : pre'.length < (frags c s).length := by simpa using hl
    refine (hY pre' ⟨x, hx⟩ W1 hj hl').mono ?_
    rintro e W2 (⟨he, h1, h2⟩ | ⟨he, h1⟩)
    · exact .inl ⟨he, ⟨pre' ++ [⟨x, hx⟩], by simp, h1⟩, h2⟩
    · exact .inr ⟨he, ⟨pre' ++ [⟨x, hx⟩], by simp, h1⟩⟩
  · rintro e W2 ⟨hv, ⟨ys, hys, pre', e1, hj⟩ | ⟨pre, hp, pre', e1, hj⟩⟩
    · exact ⟨hv, .inl ⟨pre', e1.trans hys, hj⟩⟩
    · exact ⟨hv, .inr ⟨pre', by show List.map _ pre' <+: _; rw [e1]; exact hp, hj⟩⟩

/-- strings.SplitSeq: three boxes, and the function value over them -/
theorem splitseq_any (s sep : ByteArray) (w : World) :
    Calls Tryd.prog 23 #[.string s, .string sep] w fun e w' => e = .returned (.func (.func 50) #[] #[.pointer (some ⟨w.heap.size + 1, 0, none⟩), .pointer (some ⟨w.heap.size, 0, none⟩), .pointer (some ⟨w.heap.size + 2, 0, none⟩)]) ∧
      ((w.alloc (.cells #[.string s] 9)).alloc (.cells #[.string sep] 9)).alloc (.cells #[.int .i64 0] 3) = w' := by
  have hc : Calls Tryd.prog 34 #[.string s, .string sep, .int .i64 0] w fun e w' => e = .returned (.func (.func 50) #[] #[.pointer (some ⟨w.heap.size + 1, 0, none⟩), .pointer (some ⟨w.heap.size, 0, none⟩), .pointer (some ⟨w.heap.size + 2, 0, none⟩)]) ∧
      ((w.alloc (.cells #[.string s] 9)).alloc (.cells #[.string sep] 9)).alloc (.cells #[.int .i64 0] 3) = w' := by
    go_enter Tryd.func34, Tryd.ntmps34
    go_wp2
    go_ret
    exact ⟨rfl, rfl⟩
  have HC := Lib.hid hc
  clear hc
  go_enter Tryd.func23, Tryd.ntmps23
  go_wp2_with (go_at_call 34; refine HC.out.mono ?_; rintro e w' ⟨rfl, rfl⟩)
  go_ret
  exact ⟨rfl, rfl⟩

/-- such three boxes -/
theorem boxes (w : World) (s sep : ByteArray) (W : World) (h : ((w.alloc (.cells #[.string s] 9)).alloc (.cells #[.string sep] 9)).alloc (.cells #[.int .i64 0] 3) = W) :
    Boxed W w.heap.size 9 (.string s) ∧ Boxed W (w.heap.size + 1) 9 (.string sep) ∧ Boxed W (w.heap.size + 2) 3 (.int .i64 0) ∧ Below w.heap.size w W ∧ W.heap.size = w.heap.size + 3 := by
  subst h
  have a := Boxed.new w 9 (.string s)
  have b := Boxed.new (w.alloc (.cells #[.string s] 9)) 9 (.string sep)
  have c := Boxed.new ((w.alloc (.cells #[.string s] 9)).alloc (.cells #[.string sep] 9)) 3 (.int .i64 0)
  simp only [World.size_alloc] at b c
  exact ⟨(a.alloc _).alloc _, b.alloc _, c, (((Below.refl _ w).alloc (Nat.le_refl _) _).alloc (by simp) _).alloc (by simp; omega) _, by simp⟩
end Go.Proofs.YtegikndkokemjaaDoor.Split
