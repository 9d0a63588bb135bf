import Derived.Test.YtfppfdejjifhdaaQSrB
import Derived.Test.YtfppfdejjifhdaaRgA
import Derived.RangeFuncNested
import Derived.RangeFuncBound
import Derived.RangeFuncCalls
import Derived.RangeFuncLeaves
import Derived.RangeFuncBox
import Derived.OwnWalkIn
import Derived.TacticsInMore
import Derived.LoopNIn
import Derived.LoopIn
import Derived.RegionIn
import Derived.Shelf.Abstract
namespace Go.Proofs.Ytfppfdejjifhdaa.PAll
open Go.RowKit Go.Proofs.YtfppfdejjifhdaaW.PrintWords Go.Proofs.YtfppfdejjifhdaaW.PrintLast Go.Proofs.YtfppfdejjifhdaaW.PrintMore
open Hp hiding Good
open Range (SeqCell wpIn_rangeFunc_cell)
set_option linter.unusedVariables false
set_option linter.unusedSimpArgs false
attribute [local go_sem] Oper.semAt_some

/-- one round keeps what lay ahead, and the iterator's two boxes -/
def Kp2 (n0 B : Nat) (W W' : World) : Prop := Below n0 W W' ∧ W'.heap[B]? = W.heap[B]? ∧ W'.heap[B + 1]? = W.heap[B + 1]?
theorem keptis_walk (W : World) (i : Int) (b : Bool) : Calls Try.prog 39 #[.int .i64 i, .bool b] W fun r w' => r = .returned (.bool b) ∧ W = w' := by
  go_enter Try.func39, Try.ntmps39
  go_wp2
  go_ret
  exact ⟨rfl, rfl⟩
theorem arcis_walk (W : World) (i a b c : Int) : Calls Try.prog 22 #[.int .i64 i, .agg #[.int .i64 a, .int .i64 b, .int .i64 c]] W fun r w' => r = .returned (.bool (decide (a ≠ b))) ∧ Below W.heap.size W w' := by
  have HB := Lib.hid ((Below.refl W.heap.size W).alloc (Nat.le_refl _) (.cells #[.int .i64 a, .int .i64 b, .int .i64 c] 42))
  have HZ := Lib.hid (blk_new W (.cells #[.int .i64 a, .int .i64 b, .int .i64 c] 42))
  go_enter Try.func22, Try.ntmps22
  go_upto_region 1 with fail
  generalize W.alloc (.cells #[.int .i64 a, .int .i64 b, .int .i64 c] 42) = W1 at *
  have c0 := (blk_cell HZ.out 0).trans rfl
  have c1 := (blk_cell HZ.out 1).trans rfl
  go_wp2
  go_ret
  refine ⟨?_, HB.out⟩
  by_cases h : a = b <;> simp [h]

set_option maxRecDepth 100000 in
set_option maxHeartbeats 2000000 in
theorem keptit_in (n : Nat) (hn : 1 ≤ n) (l B : Nat) (w0 : World) (hB : w0.heap.size ≤ B) (K : List Bool) (m : Nat) (KA : Option Addr) (kc : Nat) (hm : m ≤ 1000) (hC : Kd.C Kd.bool w0 KA m K) (J Jx : List Int → World → Prop)
    (hJa : ∀ s W W', J s W → Below W.heap.size W W' → J s W')
    (hY : ∀ pre x W, J pre W → pre.length < (numL m fun i => rdB K i).length → YieldAt Fence.wide (n - 1) Try.prog l #[.int .i64 x] W fun e W' =>
      (e = .returned (.bool true) ∧ J (pre ++ [x]) W' ∧ Kp2 w0.heap.size B W W') ∨ (e = .returned (.bool false) ∧ Jx (pre ++ [x]) W'))
    (W : World) (h0 : Boxed W B 59 (.slice KA m kc)) (h1 : Boxed W (B + 1) 82 (.func (.func 39) #[] #[])) (hb : Below w0.heap.size w0 W) (hJ : J [] W) :
    CallsIn Fence.wide n Try.prog 46 #[.func (.yield l) #[] #[], .pointer (some ⟨B, 0, none⟩), .pointer (some ⟨B + 1, 0, none⟩)] W fun e W' => (∃ v, e = .returned v) ∧
      ((∃ ys, ys = (numL m fun i => rdB K i) ∧ J ys W') ∨ (∃ pre, pre <+: (numL m fun i => rdB K i) ∧ Jx pre W')) := by
  have c1 := h0.cell
  have HS : Hid (Boxed W B 59 (.slice KA m kc) ∧ Boxed W (B + 1) 82 (.func (.func 39) #[] #[]) ∧ Below w0.heap.size w0 W ∧ J (numL 0 fun i => rdB K i) W) := Lib.hid ⟨h0, h1, hb, hJ⟩
  clear h0 h1 hb hJ
  refine callsIn_of_wp Try.func46 rfl trivial ?_ rfl
  simp only [Try.ntmps46, List.size_toArray, List.length_cons, List.length_nil, Nat.reduceAdd, Nat.reduceSub, Array.replicate_succ, Array.replicate_zero, List.push_toArray, List.append_toArray, List.nil_append, List.cons_append]
  gi_wp2
  clear c1
  gi_loopw [8] (fun v8 wr => ∃ i : Nat, v8 = .int .i64 i ∧ i ≤ m ∧ Hid (Boxed wr B 59 (.slice KA m kc) ∧ Boxed wr (B + 1) 82 (.func (.func 39) #[] #[]) ∧ Below w0.heap.size w0 wr ∧ J (numL i fun i => rdB K i) wr)) (fun v8 _ => m - (intOf v8).toNat)
  case atStart => exact ⟨0, rfl, by omega, HS⟩
  case round =>
    clear HS
    obtain ⟨i, rfl, hi, HR⟩ := hrel
    by_cases hlt : i < m
    · obtain ⟨ad, hA, r0⟩ := Kd.at_bool (Kd.C_below hC HR.out.2.2.1) (i : Int) (by omega) (by omega)
      rw [Int.toNat_natCast] at r0
      have hrd : rdOf false K (i : Int) = rdB K (i : Int) := rfl
      rw [hrd] at r0
      have HNX := Lib.hid (numL_succ i fun i => rdB K i)
      have k1 := HR.out.2.1.cell
      have hi0' : (0 : Int) ≤ (i : Int) := Int.natCast_nonneg _
      have hi1 : (i : Int) < (m : Int) := by omega
      have HIS := Lib.hid (fun b => keptis_walk wr i b)
      have hlen : (numL i fun i => rdB K i).length < (numL m fun i => rdB K i).length ∨ rdB K (i : Int) = false := by
        by_cases hb : rdB K (i : Int) = true
        · left
          have h1 := numL_succ i fun i => rdB K i
          rw [if_pos hb] at h1
          have h2 : ∀ a b, a ≤ b → (numL a fun i => rdB K i).length ≤ (numL b fun i => rdB K i).length := fun a b hab => by
            induction b with
            | zero => rw [show a = 0 by omega]; exact Nat.le_refl _
            | succ b ih =>
              by_cases e : a = b + 1
              · rw [e]; exact Nat.le_refl _
              · refine Nat.le_trans (ih (by omega)) ?_
                rw [numL_succ]
                split
                · simp
                · exact Nat.le_refl _
          have h3 := h2 (i + 1) m (by omega)
          rw [h1, List.length_append, List.length_singleton] at h3
          omega
        · right; simpa using hb
      subst hA
      cases hb : rdB K (i : Int) with
      | false =>
        rw [hb] at r0
        have HN : Hid (numL (i + 1) (fun i => rdB K i) = numL i (fun i => rdB K i)) := Lib.hid (by rw [HNX.out, if_neg (by simp [hb])])
        clear hb hlen HNX
        gi_wp2_with (refine ⟨trivial, ?_⟩; gi_at_call 39; refine (callsIn_wide.2 (HIS.out false)).mono ?_; rintro e w' ⟨rfl, rfl⟩)
        refine ⟨fun f hf => (by cases hf), ?_⟩
        gi_wp2
        go_roundw
        case measure => (try simp [intOf]); omega
        case rel => exact ⟨i + 1, by go_num, by omega, by rw [HN.out]; exact HR⟩
      | true =>
        rw [hb] at r0 hlen
        have hlen' : (numL i fun i => rdB K i).length < (numL m fun i => rdB K i).length := by simpa using hlen
        have HN : Hid (numL (i + 1) (fun i => rdB K i) = numL i (fun i => rdB K i) ++ [(i : Int)]) := Lib.hid (by rw [HNX.out, if_pos hb])
        obtain ⟨fn, tmps, assign, body, hy, hR⟩ := hY (numL i fun i => rdB K i) (i : Int) wr HR.out.2.2.2 hlen'
        have HPRE : Hid ((numL i (fun i => rdB K i) ++ [(i : Int)]) <+: numL m fun i => rdB K i) := Lib.hid (by
          rw [← HN.out]
          have : ∀ a b, a ≤ b → (numL a fun i => rdB K i) <+: numL b fun i => rdB K i := fun a b hab => by
            induction b with
            | zero => rw [show a = 0 by omega]; exact List.prefix_refl _
            | succ b ih =>
              by_cases e : a = b + 1
              · rw [e]; exact List.prefix_refl _
              · refine (ih (by omega)).trans ?_
                rw [numL_succ]
                split
                · exact List.prefix_append _ _
                · exact List.prefix_refl _
          exact this _ _ (by omega))
        clear hb hlen hlen' HNX
        gi_wp2_with (refine ⟨trivial, ?_⟩; gi_at_call 39; refine (callsIn_wide.2 (HIS.out true)).mono ?_; rintro e w' ⟨rfl, rfl⟩)
        refine hR.mono ?_
        rintro e W3 (⟨rfl, hJ3, hk3⟩ | ⟨rfl, hJx3⟩)
        · have HF : Hid (Boxed W3 B 59 (.slice (some ad) m kc) ∧ Boxed W3 (B + 1) 82 (.func (.func 39) #[] #[]) ∧ Below w0.heap.size w0 W3 ∧ J (numL (i + 1) fun i => rdB K i) W3) := Lib.hid ⟨hk3.2.1.trans HR.out.1, hk3.2.2.trans HR.out.2.1, HR.out.2.2.1.trans hk3.1, by rw [HN.out]; exact hJ3⟩
          clear hJ3 hk3
          gi_wp2
          go_roundw
          case measure => (try simp [intOf]); omega
          case rel => exact ⟨i + 1, by go_num, by omega, HF⟩
        · gi_wp2
          refine bodyPost_ret (results_none rfl _ _ _) rfl ?_
          exact ⟨⟨_, rfl⟩, .inr ⟨_, HPRE.out, hJx3⟩⟩
    · obtain rfl : i = m := by omega
      have k0 := HR.out.1.cell
      gi_wp2
      go_end0
      exact ⟨⟨_, rfl⟩, .inl ⟨_, rfl, HR.out.2.2.2⟩⟩
end Go.Proofs.Ytfppfdejjifhdaa.PAll

namespace Go.Proofs.Ytfppfdejjifhdaa.PAll
open Go.RowKit Go.Proofs.YtfppfdejjifhdaaW.PrintWords Go.Proofs.YtfppfdejjifhdaaW.PrintLast Go.Proofs.YtfppfdejjifhdaaW.PrintMore
open Hp hiding Good
open Range (SeqCell wpIn_rangeFunc_cell)
set_option linter.unusedVariables false
set_option linter.unusedSimpArgs false
attribute [local go_sem] Oper.semAt_some

set_option maxRecDepth 100000 in
set_option maxHeartbeats 2000000 in
theorem arcit_in (n : Nat) (hn : 1 ≤ n) (l B : Nat) (w0 : World) (hB : w0.heap.size ≤ B) (A : List S42) (m : Nat) (KA : Option Addr) (kc : Nat) (hm : m ≤ 1000) (hC : Kd.C k42 w0 KA m A) (J Jx : List Int → World → Prop)
    (hJa : ∀ s W W', J s W → Below W.heap.size W W' → J s W')
    (hY : ∀ pre x W, J pre W → pre.length < (numL m fun i => decide (frA A i ≠ twA A i)).length → YieldAt Fence.wide (n - 1) Try.prog l #[.int .i64 x] W fun e W' =>
      (e = .returned (.bool true) ∧ J (pre ++ [x]) W' ∧ Kp2 w0.heap.size B W W') ∨ (e = .returned (.bool false) ∧ Jx (pre ++ [x]) W'))
    (W : World) (h0 : Boxed W B 22 (.slice KA m kc)) (h1 : Boxed W (B + 1) 67 (.func (.func 22) #[] #[])) (hb : Below w0.heap.size w0 W) (hJ : J [] W) :
    CallsIn Fence.wide n Try.prog 37 #[.func (.yield l) #[] #[], .pointer (some ⟨B, 0, none⟩), .pointer (some ⟨B + 1, 0, none⟩)] W fun e W' => (∃ v, e = .returned v) ∧
      ((∃ ys, ys = (numL m fun i => decide (frA A i ≠ twA A i)) ∧ J ys W') ∨ (∃ pre, pre <+: (numL m fun i => decide (frA A i ≠ twA A i)) ∧ Jx pre W')) := by
  have c1 := h0.cell
  have HS : Hid (Boxed W B 22 (.slice KA m kc) ∧ Boxed W (B + 1) 67 (.func (.func 22) #[] #[]) ∧ Below w0.heap.size w0 W ∧ J (numL 0 fun i => decide (frA A i ≠ twA A i)) W) := Lib.hid ⟨h0, h1, hb, hJ⟩
  clear h0 h1 hb hJ
  refine callsIn_of_wp Try.func37 rfl trivial ?_ rfl
  simp only [Try.ntmps37, List.size_toArray, List.length_cons, List.length_nil, Nat.reduceAdd, Nat.reduceSub, Array.replicate_succ, Array.replicate_zero, List.push_toArray, List.append_toArray, List.nil_append, List.cons_append]
  gi_wp2
  clear c1
  gi_loopw [8] (fun v8 wr => ∃ i : Nat, v8 = .int .i64 i ∧ i ≤ m ∧ Hid (Boxed wr B 22 (.slice KA m kc) ∧ Boxed wr (B + 1) 67 (.func (.func 22) #[] #[]) ∧ Below w0.heap.size w0 wr ∧ J (numL i fun i => decide (frA A i ≠ twA A i)) wr)) (fun v8 _ => m - (intOf v8).toNat)
  case atStart => exact ⟨0, rfl, by omega, HS⟩
  case round =>
    clear HS
    obtain ⟨i, rfl, hi, HR⟩ := hrel
    by_cases hlt : i < m
    · obtain ⟨ad, hA, r0, r1, r2⟩ := at_T42 (Kd.C_below hC HR.out.2.2.1) (i : Int) (by omega) (by omega)
      simp only [Int.toNat_natCast] at r0 r1 r2
      have hfr : frA A i = (rd_T42 A (i : Int)).f0 := rfl
      have htw : twA A i = (rd_T42 A (i : Int)).f1 := rfl
      generalize rd_T42 A (i : Int) = x at *
      obtain ⟨a, b, c⟩ := x
      simp only at r0 r1 r2 hfr htw
      have HR2 : Hid (Boxed (wr.alloc (.cells #[.int .i64 a, .int .i64 b, .int .i64 c] 42)) B 22 (.slice KA m kc) ∧ Boxed (wr.alloc (.cells #[.int .i64 a, .int .i64 b, .int .i64 c] 42)) (B + 1) 67 (.func (.func 22) #[] #[]) ∧ Below w0.heap.size w0 (wr.alloc (.cells #[.int .i64 a, .int .i64 b, .int .i64 c] 42)) ∧ J (numL i (fun i => decide (frA A i ≠ twA A i))) (wr.alloc (.cells #[.int .i64 a, .int .i64 b, .int .i64 c] 42))) := Lib.hid ⟨HR.out.1.alloc _, HR.out.2.1.alloc _, HR.out.2.2.1.alloc HR.out.2.2.1.size _, hJa _ _ _ HR.out.2.2.2 ((Below.refl _ _).alloc (Nat.le_refl _) _)⟩
      have HZ := Lib.hid (blk_new wr (.cells #[.int .i64 a, .int .i64 b, .int .i64 c] 42))
      have hi0' : (0 : Int) ≤ (i : Int) := Int.natCast_nonneg _
      have hi1 : (i : Int) < (m : Int) := by omega
      have HIS := Lib.hid (arcis_walk (wr.alloc (.cells #[.int .i64 a, .int .i64 b, .int .i64 c] 42)) i a b c)
      have hpi : decide (frA A i ≠ twA A i) = decide (a ≠ b) := by rw [hfr, htw]
      have HNX := Lib.hid (numL_succ i fun i => decide (frA A i ≠ twA A i))
      have k1 := HR.out.2.1.cell
      have hlen : (numL i fun i => decide (frA A i ≠ twA A i)).length < (numL m fun i => decide (frA A i ≠ twA A i)).length ∨ decide (a ≠ b) = false := by
        by_cases hb : decide (a ≠ b) = true
        · left
          have h1 := numL_succ i fun i => decide (frA A i ≠ twA A i)
          rw [hpi, if_pos hb] at h1
          have h2 : ∀ a b, a ≤ b → (numL a fun i => decide (frA A i ≠ twA A i)).length ≤ (numL b fun i => decide (frA A i ≠ twA A i)).length := fun a b hab => by
            induction b with
            | zero => rw [show a = 0 by omega]; exact Nat.le_refl _
            | succ b ih =>
              by_cases e : a = b + 1
              · rw [e]; exact Nat.le_refl _
              · refine Nat.le_trans (ih (by omega)) ?_
                rw [numL_succ]
                split
                · simp
                · exact Nat.le_refl _
          have h3 := h2 (i + 1) m (by omega)
          rw [h1, List.length_append, List.length_singleton] at h3
          omega
        · right; simpa using hb
      subst hA
      have HST : Hid (∀ w', Below (wr.alloc (.cells #[.int .i64 a, .int .i64 b, .int .i64 c] 42)).heap.size (wr.alloc (.cells #[.int .i64 a, .int .i64 b, .int .i64 c] 42)) w' → Boxed w' B 22 (.slice (some ad) m kc) ∧ Boxed w' (B + 1) 67 (.func (.func 22) #[] #[]) ∧ Below w0.heap.size w0 w' ∧ J (numL i (fun i => decide (frA A i ≠ twA A i))) w') := Lib.hid (fun w' g => ⟨(g.block _ HR2.out.1.lt).trans HR2.out.1, (g.block _ HR2.out.2.1.lt).trans HR2.out.2.1, HR2.out.2.2.1.trans (g.mono HR2.out.2.2.1.size), hJa _ _ _ HR2.out.2.2.2 g⟩)
      have k1 := HR.out.2.1.cell
      have kl := HR.out.2.1.lt
      clear hfr htw
      cases hb : decide (a ≠ b) with
      | false =>
        have HN : Hid (numL (i + 1) (fun i => decide (frA A i ≠ twA A i)) = numL i (fun i => decide (frA A i ≠ twA A i))) := Lib.hid (by rw [HNX.out, hpi, if_neg (by rw [hb]; decide)])
        rw [hb] at HIS
        clear hb hlen HNX
        gi_wp2_with (first | (refine ⟨trivial, ?_⟩; gi_at_call 22; refine (callsIn_wide.2 HIS.out).mono ?_; rintro e w5 ⟨rfl, g5⟩; have HR5 := Lib.hid (HST.out _ g5); clear g5))
        refine ⟨fun f hf => (by cases hf), ?_⟩
        gi_wp2
        go_roundw
        case measure => (try simp [intOf]); omega
        case rel => exact ⟨i + 1, by go_num, by omega, by rw [HN.out]; exact HR5⟩
      | true =>
        rw [hb] at hlen
        have hlen' : (numL i fun i => decide (frA A i ≠ twA A i)).length < (numL m fun i => decide (frA A i ≠ twA A i)).length := by simpa using hlen
        have HN : Hid (numL (i + 1) (fun i => decide (frA A i ≠ twA A i)) = numL i (fun i => decide (frA A i ≠ twA A i)) ++ [(i : Int)]) := Lib.hid (by rw [HNX.out, hpi, if_pos hb])
        have HPRE : Hid ((numL i (fun i => decide (frA A i ≠ twA A i)) ++ [(i : Int)]) <+: numL m fun i => decide (frA A i ≠ twA A i)) := Lib.hid (by
          rw [← HN.out]
          have : ∀ a b, a ≤ b → (numL a fun i => decide (frA A i ≠ twA A i)) <+: numL b fun i => decide (frA A i ≠ twA A i) := fun a b hab => by
            induction b with
            | zero => rw [show a = 0 by omega]; exact List.prefix_refl _
            | succ b ih =>
              by_cases e : a = b + 1
              · rw [e]; exact List.prefix_refl _
              · refine (ih (by omega)).trans ?_
                rw [numL_succ]
                split
                · exact List.prefix_append _ _
                · exact List.prefix_refl _
          exact this _ _ (by omega))
        rw [hb] at HIS
        clear hb hlen HNX
        gi_wp2_with (first | (refine ⟨trivial, ?_⟩; gi_at_call 22; refine (callsIn_wide.2 HIS.out).mono ?_; rintro e w5 ⟨rfl, g5⟩; have HR5 := Lib.hid (HST.out _ g5); obtain ⟨fn, tmps, assign, body, hy, hR⟩ := hY (numL i fun i => decide (frA A i ≠ twA A i)) (i : Int) w5 HR5.out.2.2.2 hlen'; clear g5))
        refine hR.mono ?_
        rintro e W3 (⟨rfl, hJ3, hk3⟩ | ⟨rfl, hJx3⟩)
        · have HF : Hid (Boxed W3 B 22 (.slice (some ad) m kc) ∧ Boxed W3 (B + 1) 67 (.func (.func 22) #[] #[]) ∧ Below w0.heap.size w0 W3 ∧ J (numL (i + 1) fun i => decide (frA A i ≠ twA A i)) W3) := Lib.hid ⟨hk3.2.1.trans HR5.out.1, hk3.2.2.trans HR5.out.2.1, HR5.out.2.2.1.trans hk3.1, by rw [HN.out]; exact hJ3⟩
          clear hJ3 hk3
          gi_wp2
          go_roundw
          case measure => (try simp [intOf]); omega
          case rel => exact ⟨i + 1, by go_num, by omega, HF⟩
        · gi_wp2
          refine bodyPost_ret (results_none rfl _ _ _) rfl ?_
          exact ⟨⟨_, rfl⟩, .inr ⟨_, HPRE.out, hJx3⟩⟩
    · obtain rfl : i = m := by omega
      have k0 := HR.out.1.cell
      gi_wp2
      go_end0
      exact ⟨⟨_, rfl⟩, .inl ⟨_, rfl, HR.out.2.2.2⟩⟩
end Go.Proofs.Ytfppfdejjifhdaa.PAll

namespace Go.Proofs.Ytfppfdejjifhdaa.PAll
open Go.RowKit Go.Proofs.YtfppfdejjifhdaaW.PrintWords Go.Proofs.YtfppfdejjifhdaaW.PrintLast Go.Proofs.YtfppfdejjifhdaaW.PrintMore
open Hp hiding Good
open Range (SeqCell wpIn_rangeFunc_cell)
set_option linter.unusedVariables false
set_option linter.unusedSimpArgs false
attribute [local go_sem] Oper.semAt_some

/-! ### numbers that a range over a function collects -/
theorem num_boxes (w : World) (t1 t2 : Nat) (v1 v2 : Value) : Boxed ((w.alloc (.cells #[v1] t1)).alloc (.cells #[v2] t2)) w.heap.size t1 v1 ∧ Boxed ((w.alloc (.cells #[v1] t1)).alloc (.cells #[v2] t2)) (w.heap.size + 1) t2 v2 ∧ Below w.heap.size w ((w.alloc (.cells #[v1] t1)).alloc (.cells #[v2] t2)) ∧ ((w.alloc (.cells #[v1] t1)).alloc (.cells #[v2] t2)).heap.size = w.heap.size + 2 := by
  refine ⟨(Boxed.new w t1 v1).alloc _, ?_, ((Below.refl _ w).alloc (Nat.le_refl _) _).alloc (by simp) _, by simp⟩
  have := Boxed.new (w.alloc (.cells #[v1] t1)) t2 v2
  simpa only [World.size_alloc] using this
theorem numsB_any (A : Option Addr) (m c : Nat) (w : World) :
    Calls Try.prog 38 #[.slice A m c, .func (.func 39) #[] #[]] w fun e w' => e = .returned (.func (.func 46) #[] #[.pointer (some ⟨w.heap.size, 0, none⟩), .pointer (some ⟨w.heap.size + 1, 0, none⟩)]) ∧
      (w.alloc (.cells #[.slice A m c] 59)).alloc (.cells #[.func (.func 39) #[] #[]] 82) = w' := by
  go_enter Try.func38, Try.ntmps38
  go_wp2
  go_ret
  exact ⟨rfl, rfl⟩
theorem numsA_any (A : Option Addr) (m c : Nat) (w : World) :
    Calls Try.prog 21 #[.slice A m c, .func (.func 22) #[] #[]] w fun e w' => e = .returned (.func (.func 37) #[] #[.pointer (some ⟨w.heap.size, 0, none⟩), .pointer (some ⟨w.heap.size + 1, 0, none⟩)]) ∧
      (w.alloc (.cells #[.slice A m c] 22)).alloc (.cells #[.func (.func 22) #[] #[]] 67) = w' := by
  go_enter Try.func21, Try.ntmps21
  go_wp2
  go_ret
  exact ⟨rfl, rfl⟩
theorem numB_seq (n : Nat) (hn : 1 ≤ n) (B : Nat) (w0 : World) (hB : w0.heap.size ≤ B) (K : List Bool) (m : Nat) (KA : Option Addr) (kc : Nat) (hm : m ≤ 1000) (hC : Kd.C Kd.bool w0 KA m K)
    (w : World) (hbl : Below w0.heap.size w0 w) (h0 : Boxed w B 59 (.slice KA m kc)) (h1 : Boxed w (B + 1) 82 (.func (.func 39) #[] #[])) :
    SeqCell Fence.wide n Try.prog 46 #[.pointer (some ⟨B, 0, none⟩), .pointer (some ⟨B + 1, 0, none⟩)] (fun x : Int => #[.int .i64 x]) (Kp2 w0.heap.size B)
      (fun ys => ys = numL m fun i => rdB K i) (fun pre => pre <+: numL m fun i => rdB K i) (numL m fun i => rdB K i).length (fun _ => False) w := fun l J Jx W hW hA _ hJc _ hY hJ0 =>
  keptit_in n hn l B w0 hB K m KA kc hm hC J Jx (fun s W W' h g => hA s W W' none h (grown_of_below (g.mono (Nat.le_refl _)) none) (fun r e => by cases e)) hY W ((hW.block _ h0.lt).trans h0) ((hW.block _ h1.lt).trans h1) (hbl.trans (hW.mono hbl.size)) hJ0
theorem numA_seq (n : Nat) (hn : 1 ≤ n) (B : Nat) (w0 : World) (hB : w0.heap.size ≤ B) (A : List S42) (m : Nat) (KA : Option Addr) (kc : Nat) (hm : m ≤ 1000) (hC : Kd.C k42 w0 KA m A)
    (w : World) (hbl : Below w0.heap.size w0 w) (h0 : Boxed w B 22 (.slice KA m kc)) (h1 : Boxed w (B + 1) 67 (.func (.func 22) #[] #[])) :
    SeqCell Fence.wide n Try.prog 37 #[.pointer (some ⟨B, 0, none⟩), .pointer (some ⟨B + 1, 0, none⟩)] (fun x : Int => #[.int .i64 x]) (Kp2 w0.heap.size B)
      (fun ys => ys = numL m fun i => decide (frA A i ≠ twA A i)) (fun pre => pre <+: numL m fun i => decide (frA A i ≠ twA A i)) (numL m fun i => decide (frA A i ≠ twA A i)).length (fun _ => False) w := fun l J Jx W hW hA _ hJc _ hY hJ0 =>
  arcit_in n hn l B w0 hB A m KA kc hm hC J Jx (fun s W W' h g => hA s W W' none h (grown_of_below (g.mono (Nat.le_refl _)) none) (fun r e => by cases e)) hY W ((hW.block _ h0.lt).trans h0) ((hW.block _ h1.lt).trans h1) (hbl.trans (hW.mono hbl.size)) hJ0

structure ColI (w : World) (pre : List Int) (W : World) : Prop where
  box : ∃ v, Boxed W w.heap.size 44 v ∧ W.ownsRow (w.heap.size + 3) 3 1 v pre.length (ints pre)
  below : Below w.heap.size w W
  size : w.heap.size + 3 ≤ W.heap.size
theorem col_own (w : World) (B : Nat) (hB : w.heap.size + 3 ≤ B) : OwnFrom B (fun pre W => ColI w pre W) := by
  rintro pre W W' row ⟨⟨v, hb, hr⟩, hbl, hs⟩ hg hrow
  have hcell : ∀ k o, W.heap[k]? = some o → o.isCells = true → some k ≠ row := fun k o hk ho e => by
    obtain ⟨_, o', ho', hc⟩ := hrow k e.symm
    rw [hk] at ho'; cases ho'
    rw [ho] at hc; cases hc
  refine ⟨⟨v, hb.kept hg (hcell _ _ hb rfl), hr.kept hg ?_⟩, hbl.grown hg hbl.size (fun k e => by have := (hrow k e).1; omega), Nat.le_trans hs hg.size⟩
  rcases hr.2 with ⟨rfl, _⟩ | ⟨g, cap, cur, rfl, hgb, hh, _⟩
  · exact .inl rfl
  · exact .inr (hcell g _ hh rfl)
/-- one number more -/
theorem col_step {w W w1 : World} {pre : List Int} {x : Int} {v : Value} {g' cap' : Nat} (hv : Boxed W w.heap.size 44 v) (hrow : W.ownsRow (w.heap.size + 3) 3 1 v pre.length (ints pre)) (hB : Below w.heap.size w W) (hs : w.heap.size + 3 ≤ W.heap.size) {tmp : Obj}
    (hown' : w1.ownsRow (w.heap.size + 3) 3 1 (.slice (some ⟨g', 0, none⟩) (pre.length + 1) cap') (pre.length + 1) (ints pre ++ [.int .i64 x])) (hgrow : (W.alloc tmp).grownBy w1 v.ownBlock) :
    KeepsOthers W (w1.setCell ⟨w.heap.size, 0, none⟩ (.slice (some ⟨g', 0, none⟩) (pre.length + 1) cap')) ∧
    Kp2 w.heap.size (w.heap.size + 1) W (w1.setCell ⟨w.heap.size, 0, none⟩ (.slice (some ⟨g', 0, none⟩) (pre.length + 1) cap')) ∧
    ColI w (pre ++ [x]) (w1.setCell ⟨w.heap.size, 0, none⟩ (.slice (some ⟨g', 0, none⟩) (pre.length + 1) cap')) := by
  obtain ⟨hv1, hv2, _, hk2, hb2⟩ := hv.appended (n₀ := w.heap.size) (by decide) (own_weaken hrow (by omega)) hB.size (Nat.le_refl _) (own_weaken hown' (by omega)) hgrow
  have hk : ∀ k, w.heap.size < k → k < w.heap.size + 3 → (w1.setCell ⟨w.heap.size, 0, none⟩ (.slice (some ⟨g', 0, none⟩) (pre.length + 1) cap')).heap[k]? = W.heap[k]? := fun k h1 h2 => by
    refine (Below.heap_setCell _ _ _ k (by simp; omega)).trans ((hgrow.block k (by simp; omega) ?_).trans (Below.heap_alloc _ _ _ (by omega)))
    rcases hrow.2 with ⟨rfl, _⟩ | ⟨g, cap, cur, rfl, hg, _, _⟩
    · simp [Value.ownBlock]
    · simp [Value.ownBlock]; omega
  refine ⟨hk2, ⟨hb2, hk _ (by omega) (by omega), hk _ (by omega) (by omega)⟩, ⟨⟨_, hv2, ?_⟩, hB.trans hb2, Nat.le_trans hs hb2.size⟩⟩
  have := hown'.kept (grownBy_setCell' w1 w.heap.size (.slice (some ⟨g', 0, none⟩) (pre.length + 1) cap')) (.inr (hv1.not_row (by decide) hown').symm)
  simpa [ints] using this
theorem below_put {W : World} {B D : Nat} {w : World} (o' : Obj) (hb : Below B w W) (hB : B ≤ D) : Below B w (W.putObj D o') :=
  ⟨hb.os, hb.tape, hb.output, by simpa using hb.size, fun k hk => (World.putObj_heap_other (by omega)).trans (hb.block k hk)⟩
theorem own_put {W : World} {B e sz n : Nat} {v : Value} {xs : List Value} (h : W.ownsRow B e sz v n xs) {D : Nat} {o : Obj} (o' : Obj) (hD : W.heap[D]? = some o) (ho : o.isCells = false) : (W.putObj D o').ownsRow B e sz v n xs := by
  have g : Only W (W.putObj D o') (fun k => k = D) := ⟨rfl, rfl, rfl, by simp, fun k _ hn => World.putObj_heap_other (fun e => hn e)⟩
  refine own_only h g (fun k hk e => ?_)
  obtain ⟨cs, hc⟩ := own_typed h k hk
  subst e
  rw [hD] at hc
  cases hc
  cases ho
set_option maxRecDepth 100000 in
set_option maxHeartbeats 2000000 in
/-- (*Graph).Kept -/
theorem kept_walk (w : World) (gb m : Nat) (K : List Bool) (KA : Option Addr) (kc : Nat) (x0 x1 x2 x3 x4 x5 : Value) (hm : m ≤ 1000) (hg : w.heap[gb]? = some (.cells #[x0, x1, x2, x3, x4, x5, .slice KA m kc] 63 (0, 0))) (hC : Kd.C Kd.bool w KA m K) :
    Calls Try.prog 25 #[.pointer (some ⟨gb, 0, none⟩)] w fun e w' => ∃ v, e = .returned v ∧ w'.ownsRow w.heap.size 3 1 v (numL m fun i => rdB K i).length (ints (numL m fun i => rdB K i)) ∧ Below w.heap.size w w' := by
  have hc0 := (blk_cell hg 6).trans rfl
  have hcl := blk_lt hg
  obtain ⟨i0, hi, hz0, hz1, hz2⟩ := info_parts info3'
  have hnl := numL_length m fun i => rdB K i
  clear hg
  refine (callsIn_wide (n := 6)).1 ?_
  refine callsIn_of_wp_marks Try.func25 rfl trivial ?_ rfl
  simp only [Try.ntmps25, List.size_toArray, List.length_cons, List.length_nil, Nat.reduceAdd, Nat.reduceSub, Array.replicate_succ, Array.replicate_zero, List.push_toArray, List.append_toArray, List.nil_append, List.cons_append]
  refine Go.wpIn_wide.2 ?_
  go_wp2_with (go_at_call 38; refine (numsB_any _ _ _ _).mono ?_; rintro e w' ⟨rfl, hW⟩)
  obtain ⟨k0, k1, kb, ksz⟩ := num_boxes (w.alloc (.cells #[.slice none 0 0] 44)) 59 82 (.slice KA m kc) (.func (.func 39) #[] #[])
  rw [hW] at k0 k1 kb ksz
  rw [World.size_alloc] at k0 k1 ksz
  have hB0 : Below w.heap.size w w' := ((Below.refl _ w).alloc (Nat.le_refl _) _).trans (kb.mono (by simp))
  have bO : Boxed w' w.heap.size 44 (.slice none 0 0) := (kb.block _ (by simp)).trans (Boxed.new w 44 (.slice none 0 0))
  clear hW kb hc0
  refine (Go.wpIn_wide (n := 6)).1 ?_
  refine wpIn_rangeFunc_cell (Cs := fun _ => False) rfl (by omega) (gf := 46) (lb := #[.pointer (some ⟨w.heap.size + 1, 0, none⟩), .pointer (some ⟨w.heap.size + 1 + 1, 0, none⟩)]) rfl trivial (enters_of Try.func46 (by kernel_rfl) rfl)
    (fun c hc => hc.elim) (numB_seq 5 (by omega) (w.heap.size + 1) w (by omega) K m KA kc hm hC w' hB0 k0 k1)
    (fun h k => ⟨h.1.trans k.1, k.2.1.trans h.2.1, k.2.2.trans h.2.2⟩) (fun W l o o' hl _ _ _ => ⟨below_put o' (Below.refl _ _) (by omega), World.putObj_heap_other (by omega), World.putObj_heap_other (by omega)⟩) (Below.refl _ _) (fun _ => rfl)
    (ColI w) (fun _ _ _ => False) (fun c hc s W u h => hc.elim) (fun c hc _ _ _ _ h => h) (col_own w _ (by omega)) (fun _ _ _ _ _ h _ _ => h)
    ⟨⟨_, bO, World.ownsRow_nil _ _ _ _⟩, hB0, by omega⟩
    (fun x W => { tmps := #[.pointer (some ⟨gb, 0, none⟩), undef, .slice none 0 0, .pointer (some ⟨w.heap.size, 0, none⟩), .int .i64 x, .pointer (some ⟨gb, 0, none⟩), .bool false, .pointer (some ⟨gb, 0, none⟩), .pointer (some ⟨gb, 0, none⟩), .pointer (some ⟨gb, 6, none⟩), .slice KA m kc,
      .func (.func 46) #[] #[.pointer (some ⟨w.heap.size + 1, 0, none⟩), .pointer (some ⟨w.heap.size + 1 + 1, 0, none⟩)], .int .i64 x, undef, undef, undef, undef, undef], defers := [] })
    (fun x W => W) (fun x W => grown_of_below (Below.refl _ _) none) (fun x W hs => ⟨Below.refl _ _, rfl, rfl⟩) ?assign ?body ?done ?stop
  case assign =>
    intro l x W K hK
    gi_wp2
    exact hK
  case body =>
    rintro l pre x W W2 hsz hnew hsz2 ⟨⟨u, hv, hrow⟩, hB, hs⟩ hlt
    have hc := hv.cell
    clear hnew hsz2
    gi_wp2_with (gi_at_builtin; refine wpListIn_append_own _ rfl _ _ 44 rfl (w.heap.size + 3) 3 i0 (.int .i64 0) 1 8 Try.underlying44 hi hz0 hz1 hz2 rfl (by decide) _ _ _ rfl (hrow.alloc _) ⟨W2.heap.size, 0, none⟩ 1 1 [.int .i64 x] rfl rfl (cell_one_new _ _ _) (by simp [Value.oneCell']) (by unfold maxLen; omega) (by omega) (by simp; omega) ?_; intro v' w1 hown' hgrow _; obtain ⟨g', cap', rfl⟩ := ownsRow_succ hown'; have hstep := col_step hv hrow hB hs hown' hgrow; have hv1 : Boxed w1 w.heap.size 44 u := (hv.alloc _).kept hgrow (hv.not_row (by decide) hrow); have hc1 := hv1.cell; have hf1 := hv1.frozen)
    exact hstep
  case done =>
    rintro D ys W hD rfl ⟨⟨u, hv, hrow⟩, hB, hs⟩ hK
    have hc := hv.cell
    have HR := Lib.hid (own_weaken (base' := w.heap.size) hrow (by omega))
    have HBB := Lib.hid hB
    clear hrow hv hB hs
    go_wp2_with fail
    refine ⟨by simp, .inl ⟨_, _, rfl, run_takeDeferred hK, ?_⟩⟩
    refine ⟨_, results_tmp rfl _ _ _, ?_⟩
    exact ⟨_, rfl, own_put HR.out _ hK rfl, below_put _ HBB.out (by omega)⟩
  case stop =>
    rintro D c pre W _ _ h _
    exact h.elim
end Go.Proofs.Ytfppfdejjifhdaa.PAll
