import Derived.Test.YtfppfdejjifhdaaQCoA
import Derived.Test.YtfppfdejjifhdaaQNlC
import Derived.Test.YtfppfdejjifhdaaQNhA
namespace Go.Proofs.Ytfppfdejjifhdaa.PAll
open Go.RowKit Go.Proofs.YtfppfdejjifhdaaW.PrintWords Go.Proofs.YtfppfdejjifhdaaW.PrintLast Go.Proofs.YtfppfdejjifhdaaW.PrintMore
open Hp hiding Good
set_option linter.unusedVariables false
set_option linter.unusedSimpArgs false

/-- (*Left).Places of nothing -/
theorem places_none (w : World) : Calls Try.prog 14 #[.pointer none] w fun r w' => r = .returned (.slice none 0 0) ∧ w = w' := by
  go_enter Try.func14, Try.ntmps14
  go_wp2
  go_ret
  exact ⟨rfl, rfl⟩

def kArcs : List S42 := [⟨0, 1, 2⟩, ⟨1, 2, 3⟩]
theorem kOk : MapOk 3 kArcs := by
  refine ⟨by decide, by decide, by decide, fun a ha => ?_⟩
  simp only [kArcs, List.mem_cons, List.not_mem_nil, or_false] at ha
  rcases ha with rfl | rfl
  · exact ⟨by decide, by decide, by decide, by decide, by decide, by decide⟩
  · exact ⟨by decide, by decide, by decide, by decide, by decide, by decide⟩
def flat3 (l : List S42) : List Value := l.flatMap fun e => [.int .i64 e.f0, .int .i64 e.f1, .int .i64 e.f2]
theorem litA (W : World) (b : Nat) (h : W.heap[b]? = some (.cells (flat3 kArcs).toArray 42 (0, 0))) : Kd.C k42 W (some ⟨b, 0, none⟩) kArcs.length kArcs := by
  have hown : W.ownsRow 0 42 3 (.slice (some ⟨b, 0, none⟩) 2 2) 2 (flat3 kArcs) := ⟨rfl, .inr ⟨b, 2, _, rfl, by omega, h, Nat.le_refl _, by decide, rfl, rfl⟩⟩
  have h1 : Kd.R k42 42 W 0 (fun _ => True) (.slice (some ⟨b, 0, none⟩) 2 2) kArcs := by
    refine ⟨fun _ _ => trivial, flat3 kArcs, hown, rfl, fun j p hj => ?_⟩
    rcases j with _ | _ | j
    · obtain rfl : _ = p := Option.some.inj hj
      exact k42_mkM _ _ _ _
    · obtain rfl : _ = p := Option.some.inj hj
      exact k42_mkM _ _ _ _
    · simp [kArcs] at hj
  exact (Kd.R_reads' h1).2.2
/-- what left.New makes of the example -/
structure KLeft (w W : World) (lb K : Nat) (F : Int → Int → Option WayP) (B : Nat → Nat) : Prop where
  rep : LRep W lb 3 K F B
  ways : ∀ a b, F a b = if a = 0 ∧ b = 1 then some ⟨2, -1, 0⟩ else if a = 1 ∧ b = 2 then some ⟨3, -1, 1⟩ else none
  ok : LOk 3 2147483648 F
  below : Below w.heap.size w W

set_option maxRecDepth 100000 in
set_option maxHeartbeats 2000000 in
/-- the example's graph -/
theorem kgraph_walk (w : World) : Calls Try.prog 8 #[.agg #[.int .i64 3, .slice (some ⟨w.heap.size, 0, none⟩) 2 2]] (w.alloc (.cells #[.int .i64 0, .int .i64 1, .int .i64 2, .int .i64 1, .int .i64 2, .int .i64 3] 42))
    fun r w' => ∃ gb E, r = .returned (.pointer (some ⟨gb, 0, none⟩)) ∧ GRep w' gb 3 E ∧ GOk 3 2 (frA kArcs) (twA kArcs) (wtA kArcs) E ∧ Below w.heap.size w w' := by
  have g1 : Below w.heap.size w (w.alloc (.cells #[.int .i64 0, .int .i64 1, .int .i64 2, .int .i64 1, .int .i64 2, .int .i64 3] 42)) := (Below.refl _ _).alloc (Nat.le_refl _) _
  refine (gnew_walk (w.alloc (.cells #[.int .i64 0, .int .i64 1, .int .i64 2, .int .i64 1, .int .i64 2, .int .i64 3] 42)) 3 kArcs _ 2 (litA _ w.heap.size (blk_new w _)) (by decide) kOk).mono ?_
  rintro e w' ⟨gb, E, rfl, h1, h2, h3⟩
  exact ⟨gb, E, rfl, h1, h2, g1.trans (h3.mono g1.size)⟩
theorem kleft_walk (w W : World) (gb : Nat) (E : Nat → List EdgP) (H : GRep W gb 3 E) (hG : GOk 3 2 (frA kArcs) (twA kArcs) (wtA kArcs) E) (g : Below w.heap.size w W) :
    Calls Try.prog 7 #[.pointer (some ⟨gb, 0, none⟩)] W fun r w' => ∃ lb K F B, r = .returned (.pointer (some ⟨lb, 0, none⟩)) ∧ KLeft w w' lb K F B := by
  have hE : EdOk 3 E := hG.ed (fun k hk => by
    rcases k with _ | _ | k
    · decide
    · decide
    · omega) (fun k hk => by
    rcases k with _ | _ | k
    · decide
    · decide
    · omega)
  refine (lnew_walk W gb 3 E H hE (by decide)).mono ?_
  rintro e w' ⟨lb, K, F, B, rfl, h1, h2, h3, h4, h5⟩
  exact ⟨lb, K, F, B, rfl, h1, known_F hG (by decide) (by decide) (by decide) (by decide) (by decide) (by decide) h3, h3.lok hE, g.trans (h4.mono g.size)⟩
variable {w W : World} {lb K : Nat} {F : Int → Int → Option WayP} {B : Nat → Nat}
theorem KLeft.cost (H : KLeft w W lb K F B) : Calls Try.prog 13 #[.pointer (some ⟨lb, 0, none⟩), .int .i64 1] W fun r w' => r = .returned (.int .i64 (-1)) ∧ KLeft w w' lb K F B := by
  refine (cost_walk W lb 3 K F B H.rep (by decide) 1 (by decide) 0 2 (fun x => ?_) (fun x => ?_) (by decide)).mono ?_
  · rw [H.ways]
    by_cases hx : x = 0
    · subst hx; rfl
    · rw [if_neg (fun e => hx e.1), if_neg (fun e => by have := e.2; omega), decide_eq_false hx]; rfl
  · rw [H.ways]
    by_cases hx : x = 2
    · subst hx; rfl
    · rw [if_neg (fun e => by have := e.1; omega), if_neg (fun e => hx e.2), decide_eq_false hx]; rfl
  · rintro e w' ⟨rfl, g⟩
    exact ⟨rfl, H.rep.below g, H.ways, H.ok, H.below.trans (g.mono H.below.size)⟩
theorem KLeft.far (H : KLeft w W lb K F B) : Calls Try.prog 9 #[.pointer (some ⟨lb, 0, none⟩), .int .i64 0, .int .i64 2, .int .i64 1, .int .i64 99] W fun r w' => r = .returned (.bool false) ∧ KLeft w w' lb K F B := by
  refine (near_walk W lb 3 K F B H.rep (by decide) _ H.ok (by decide) 0 2 (by decide) (by decide) 1 99 (by decide) (by decide) (by decide) (by decide)).mono ?_
  rintro e w' ⟨⟨b, rfl, hb⟩, g⟩
  have : b = false := by
    cases b with
    | false => rfl
    | true => exact absurd (hb.1 rfl) (known_far H.ways)
  subst this
  exact ⟨rfl, H.rep.below g, H.ways, H.ok, H.below.trans (g.mono H.below.size)⟩
theorem KLeft.near (H : KLeft w W lb K F B) : Calls Try.prog 9 #[.pointer (some ⟨lb, 0, none⟩), .int .i64 0, .int .i64 2, .int .i64 7, .int .i64 5] W fun r w' => r = .returned (.bool true) ∧ KLeft w w' lb K F B := by
  refine (near_walk W lb 3 K F B H.rep (by decide) _ H.ok (by decide) 0 2 (by decide) (by decide) 7 5 (by decide) (by decide) (by decide) (by decide)).mono ?_
  rintro e w' ⟨⟨b, rfl, hb⟩, g⟩
  have : b = true := hb.2 (known_near H.ways)
  subst this
  exact ⟨rfl, H.rep.below g, H.ways, H.ok, H.below.trans (g.mono H.below.size)⟩
set_option maxRecDepth 100000 in
set_option maxHeartbeats 4000000 in
/-- law 8's known -/
theorem known_walk (w : World) : Calls Try.prog 6 #[] w fun r w' => r = .returned (.bool true) ∧ Below w.heap.size w w' := by
  have HG := Lib.hid (kgraph_walk w)
  go_enter Try.func6, Try.ntmps6
  go_wp2_with (first
    | (go_at_call 8; with_reducible refine HG.out.mono ?_; rintro e w2 ⟨gb, E, rfl, hg, hok, g2⟩)
    | (go_at_call 7; with_reducible refine (kleft_walk w w2 gb E hg hok g2).mono ?_; rintro e w3 ⟨lb, K, F, B, rfl, H3⟩)
    | (go_at_call 13; with_reducible refine H3.cost.mono ?_; rintro e w4 ⟨rfl, H4⟩)
    | (go_at_call 9; with_reducible refine H4.far.mono ?_; rintro e w5 ⟨rfl, H5⟩)
    | (go_at_call 9; with_reducible refine H5.near.mono ?_; rintro e w6 ⟨rfl, H6⟩)
    | (go_at_call 14; with_reducible refine (places_none _).mono ?_; rintro e w7 ⟨rfl, rfl⟩))
  go_ret
  exact ⟨rfl, H6.below⟩
end Go.Proofs.Ytfppfdejjifhdaa.PAll
