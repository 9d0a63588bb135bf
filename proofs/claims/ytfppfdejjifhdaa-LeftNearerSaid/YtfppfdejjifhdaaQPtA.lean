import Derived.Test.YtfppfdejjifhdaaQLyA
namespace Go.Proofs.Ytfppfdejjifhdaa.PAll
open Go.RowKit Go.Proofs.YtfppfdejjifhdaaW.PrintWords Go.Proofs.YtfppfdejjifhdaaW.PrintLast Go.Proofs.YtfppfdejjifhdaaW.PrintMore
open Hp hiding Good
set_option linter.unusedVariables false
set_option linter.unusedSimpArgs false

def PutPost (lb n K : Nat) (F : Int → Int → Option WayP) (B : Nat → Nat) (u v d mid : Int) (w : World) (r : Ending) (w' : World) : Prop :=
  r = .returned (.bool (laysP n F u v d mid)) ∧ LRep w' lb n (K + 1) (if laysP n F u v d mid = true then putF F u v ⟨d, mid, -1⟩ else F) B ∧ Only w w' (fun k => LS n B k)
theorem PutPost.no {lb n K : Nat} {F : Int → Int → Option WayP} {B : Nat → Nat} {u v d mid : Int} {w w' : World} (H : LRep w lb n K F B) (h : laysP n F u v d mid = false) (g : Below w.heap.size w w') : PutPost lb n K F B u v d mid w (.returned (.bool false)) w' := by
  unfold PutPost
  rw [h]
  exact ⟨rfl, by rw [if_neg (by decide)]; exact (H.below g).more (by omega), Only.of_below g _⟩
theorem PutPost.yes {lb n K : Nat} {F : Int → Int → Option WayP} {B : Nat → Nat} {u v d mid : Int} {w w1 w' : World} (h : laysP n F u v d mid = true) (g : Below w.heap.size w w1) (H : LRep w' lb n (K + 1) (putF F u v ⟨d, mid, -1⟩) B) (o : Only w1 w' (LS n B)) : PutPost lb n K F B u v d mid w (.returned (.bool true)) w' := by
  unfold PutPost
  rw [h]
  exact ⟨rfl, by rw [if_pos rfl]; exact H, (Only.of_below g _).trans (o.mono (fun k _ h _ => h))⟩
set_option maxRecDepth 100000 in
set_option maxHeartbeats 4000000 in
/-- (*Left).Put -/
theorem wput_walk (w : World) (lb n K : Nat) (F : Int → Int → Option WayP) (B : Nat → Nat) (H : LRep w lb n K F B) (hn : n ≤ 1000) (hK : K ≤ 1000000000) (u v d mid : Int) (hwu : (Lit.int .i64 u).wf = true) (hwv : (Lit.int .i64 v).wf = true) :
    Calls Try.prog 10 #[.pointer (some ⟨lb, 0, none⟩), .int .i64 u, .int .i64 v, .int .i64 d, .int .i64 mid] w (PutPost lb n K F B u v d mid w) := by
  have HU := Lib.hid (is_walk w lb n K F B H u hwu)
  have HV := Lib.hid (is_walk w lb n K F B H v hwv)
  have HB := Lib.hid H
  have g0 := Lib.hid (Below.refl w.heap.size w)
  by_cases hu : 0 ≤ u ∧ u < n
  rotate_left
  · have HF : Hid (laysP n F u v d mid = false) := Lib.hid (by unfold laysP; rw [decide_eq_false (by omega)]; rfl)
    rw [decide_eq_false hu] at HU
    clear H hu
    go_enter Try.func10, Try.ntmps10
    go_wp2_with (first | (go_at_call 27; first | (with_reducible refine HU.out.mono ?_; rintro e w' ⟨rfl, rfl⟩) | (with_reducible refine HV.out.mono ?_; rintro e w' ⟨rfl, rfl⟩)))
    go_ret
    exact PutPost.no HB.out HF.out g0.out
  rw [decide_eq_true hu] at HU
  by_cases hv : 0 ≤ v ∧ v < n
  rotate_left
  · have HF : Hid (laysP n F u v d mid = false) := Lib.hid (by unfold laysP; rw [decide_eq_false (by omega)]; rfl)
    rw [decide_eq_false hv] at HV
    clear H hu hv
    go_enter Try.func10, Try.ntmps10
    go_wp2_with (first | (go_at_call 27; first | (with_reducible refine HU.out.mono ?_; rintro e w' ⟨rfl, rfl⟩) | (with_reducible refine HV.out.mono ?_; rintro e w' ⟨rfl, rfl⟩)))
    go_ret
    exact PutPost.no HB.out HF.out g0.out
  rw [decide_eq_true hv] at HV
  by_cases huv : u = v
  · have HF : Hid (laysP n F u v d mid = false) := Lib.hid (by unfold laysP; rw [decide_eq_false (by omega)]; rfl)
    have e0 : (u == v) = true := by simpa using huv
    clear H hu hv huv
    go_enter Try.func10, Try.ntmps10
    go_wp2_with (first | (go_at_call 27; first | (with_reducible refine HU.out.mono ?_; rintro e w' ⟨rfl, rfl⟩) | (with_reducible refine HV.out.mono ?_; rintro e w' ⟨rfl, rfl⟩)))
    go_ret
    exact PutPost.no HB.out HF.out g0.out
  have e0 : (u == v) = false := by simpa using huv
  by_cases hd : d < 0
  · have HF : Hid (laysP n F u v d mid = false) := Lib.hid (by unfold laysP; rw [decide_eq_false (by omega)]; rfl)
    have e1 : decide (d < 0) = true := by simpa using hd
    clear H hu hv huv hd
    go_enter Try.func10, Try.ntmps10
    go_wp2_with (first | (go_at_call 27; first | (with_reducible refine HU.out.mono ?_; rintro e w' ⟨rfl, rfl⟩) | (with_reducible refine HV.out.mono ?_; rintro e w' ⟨rfl, rfl⟩)))
    go_ret
    exact PutPost.no HB.out HF.out g0.out
  have e1 : decide (d < 0) = false := by simpa using hd
  by_cases hm : mid < 0
  · have HF : Hid (laysP n F u v d mid = false) := Lib.hid (by unfold laysP; rw [decide_eq_false (by omega)]; rfl)
    have e2 : decide (mid < 0) = true := by simpa using hm
    clear H hu hv huv hd hm
    go_enter Try.func10, Try.ntmps10
    go_wp2_with (first | (go_at_call 27; first | (with_reducible refine HU.out.mono ?_; rintro e w' ⟨rfl, rfl⟩) | (with_reducible refine HV.out.mono ?_; rintro e w' ⟨rfl, rfl⟩)))
    go_ret
    exact PutPost.no HB.out HF.out g0.out
  have e2 : decide (mid < 0) = false := by simpa using hm
  obtain ⟨un, rfl⟩ := Int.eq_ofNat_of_zero_le hu.1
  obtain ⟨vn, rfl⟩ := Int.eq_ofNat_of_zero_le hv.1
  have hl := H.out.look Try.underlying46 (zero51 _) un hwu
  rw [rowsV_at (show un < n by omega)] at hl
  simp only [Option.getD_some] at hl
  have hl2 := (H.outs un (by omega)).lookOk Try.underlying51 (zero37 _) vn hwv
  rw [waysV_get, waysV_is] at hl2
  obtain ⟨c0, c1, c2, c3, cl⟩ := H.cells
  have HLAY := Lib.hid (fun (W : World) (g : Below w.heap.size w W) => wlay_walk W lb n K F B (H.below g) hn hK un vn (by omega) (by omega) ⟨d, mid, -1⟩)
  have hlays : laysP n F un vn d mid = (match F un vn with
      | none => true
      | some old => decide (d < old.w)) := by unfold laysP; rw [decide_eq_true ⟨hu.1, hu.2, hv.1, hv.2, huv, by omega, by omega⟩]; rfl
  clear H hu hv huv hd hm
  cases hF : F un vn with
  | none =>
    rw [hF] at hl2 hlays
    have HF : Hid (laysP n F un vn d mid = true) := Lib.hid hlays
    simp only [Option.isSome_none, Option.getD_none, wayV] at hl2
    simp only [wayV] at HLAY
    clear hF hlays
    have HX := Lib.hid (HLAY.out (w.alloc (.cells #[.int .i64 0, .int .i64 0, .int .i64 0] 37)) ((Below.refl _ _).alloc (Nat.le_refl _) _))
    have HG := Lib.hid ((Below.refl w.heap.size w).alloc (Nat.le_refl _) (.cells #[.int .i64 0, .int .i64 0, .int .i64 0] 37))
    go_enter Try.func10, Try.ntmps10
    go_wp2_with (first | (go_at_call 27; first | (with_reducible refine HU.out.mono ?_; rintro e w' ⟨rfl, rfl⟩) | (with_reducible refine HV.out.mono ?_; rintro e w' ⟨rfl, rfl⟩)) | (go_at_call 17; refine HX.out.mono ?_; rintro e w2 ⟨⟨x, rfl⟩, hL, hO⟩))
    go_ret
    exact PutPost.yes HF.out HG.out hL hO
  | some old =>
    obtain ⟨o0, o1, o2⟩ := old
    rw [hF] at hl2 hlays
    simp only [Option.isSome_some, Option.getD_some, wayV] at hl2
    simp only at hlays
    simp only [wayV] at HLAY
    have HX := Lib.hid (HLAY.out (w.alloc (.cells #[.int .i64 o0, .int .i64 o1, .int .i64 o2] 37)) ((Below.refl _ _).alloc (Nat.le_refl _) _))
    have HG := Lib.hid ((Below.refl w.heap.size w).alloc (Nat.le_refl _) (.cells #[.int .i64 o0, .int .i64 o1, .int .i64 o2] 37))
    by_cases hle : o0 ≤ d
    · have HF : Hid (laysP n F un vn d mid = false) := Lib.hid (by rw [hlays]; simpa using hle)
      have e3 : decide (o0 ≤ d) = true := by simpa using hle
      clear hF hlays hle
      go_enter Try.func10, Try.ntmps10
      go_wp2_with (first | (go_at_call 27; first | (with_reducible refine HU.out.mono ?_; rintro e w' ⟨rfl, rfl⟩) | (with_reducible refine HV.out.mono ?_; rintro e w' ⟨rfl, rfl⟩)))
      go_ret
      exact PutPost.no HB.out HF.out HG.out
    · have HF : Hid (laysP n F un vn d mid = true) := Lib.hid (by rw [hlays]; simp; omega)
      have e3 : decide (o0 ≤ d) = false := by simpa using hle
      clear hF hlays hle
      go_enter Try.func10, Try.ntmps10
      go_wp2_with (first | (go_at_call 27; first | (with_reducible refine HU.out.mono ?_; rintro e w' ⟨rfl, rfl⟩) | (with_reducible refine HV.out.mono ?_; rintro e w' ⟨rfl, rfl⟩)) | (go_at_call 17; refine HX.out.mono ?_; rintro e w2 ⟨⟨x, rfl⟩, hL, hO⟩))
      go_ret
      exact PutPost.yes HF.out HG.out hL hO
end Go.Proofs.Ytfppfdejjifhdaa.PAll
