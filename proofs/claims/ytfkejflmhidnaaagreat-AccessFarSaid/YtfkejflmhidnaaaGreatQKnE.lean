import Derived.Test.YtfkejflmhidnaaaGreatQSmB
set_option linter.all false
namespace Go.Proofs.YtfkejflmhidnaaaGreat.PAll
open RowKit YtfkejflmhidnaaaGreatW.PrintWords YtfkejflmhidnaaaGreatW.PrintLast YtfkejflmhidnaaaGreatW.PrintMore
open Hp hiding Good
def kRank : List Int := [0, 1, 2]
def kWays : List S71 := [⟨0, 1, ⟨2, -1, 0⟩⟩, ⟨1, 2, ⟨3, -1, 1⟩⟩]
theorem kV : VH 3 kRank kWays := by
  have rd0 : ∀ v : Nat, v < 3 → rd kRank v = v := fun v hv => by
    rcases v with _ | _ | _ | v
    · rfl
    · rfl
    · rfl
    · omega
  refine ⟨by decide, by decide, rfl, fun v hv => by rw [rd0 v hv]; omega, fun u v hu hv h => by rw [rd0 u hu, rd0 v hv] at h; omega, fun x hx => ?_, fun i j hi hj h0 h1 => ?_, fun x hx => ?_⟩
  · simp only [kWays, List.mem_cons, List.not_mem_nil, or_false] at hx
    rcases hx with rfl | rfl <;> decide
  · have hi' : i < 2 := hi
    have hj' : j < 2 := hj
    rcases i with _ | _ | i <;> rcases j with _ | _ | j <;> first | rfl | omega | (exfalso; revert h0; decide)
  · simp only [kWays, List.mem_cons, List.not_mem_nil, or_false] at hx
    rcases hx with rfl | rfl
    · exact .inl ⟨by decide, by decide, by decide⟩
    · exact .inl ⟨by decide, by decide, by decide⟩
theorem litI (W : World) (b : Nat) (l : List Int) (cs : Array Value) (hcs : cs = (ints l).toArray) (h : W.heap[b]? = some (.cells cs 3 (0, 0))) (hl : l.length ≤ 1000000) : Kd.C (Kd.int .i64) W (some ⟨b, 0, none⟩) l.length l := by
  have hown : W.ownsRow 0 3 1 (.slice (some ⟨b, 0, none⟩) l.length l.length) l.length (ints l) := ⟨by simp [ints], .inr ⟨b, l.length, cs, rfl, by omega, h, Nat.le_refl _, Nat.le_trans hl (by decide), by rw [hcs]; simp [ints], by rw [hcs]; exact List.take_of_length_le (by simp [ints])⟩⟩
  have h1 : Kd.R (Kd.int .i64) 3 W 0 (fun _ => True) (.slice (some ⟨b, 0, none⟩) l.length l.length) l := Kd.R_of_own hown (fun _ _ => trivial)
  exact (Kd.R_reads' h1).2.2
def flat5 (l : List S71) : List Value := l.flatMap fun e => [.int .i64 e.f0, .int .i64 e.f1, .int .i64 e.f2.f0, .int .i64 e.f2.f1, .int .i64 e.f2.f2]
theorem litW (W : World) (b : Nat) (h : W.heap[b]? = some (.cells (flat5 kWays).toArray 71 (0, 0))) : Kd.C k71 W (some ⟨b, 0, none⟩) kWays.length kWays := by
  have hown : W.ownsRow 0 71 5 (.slice (some ⟨b, 0, none⟩) 2 2) 2 (flat5 kWays) := ⟨rfl, .inr ⟨b, 2, _, rfl, by omega, h, Nat.le_refl _, by decide, rfl, rfl⟩⟩
  have h1 : Kd.R k71 71 W 0 (fun _ => True) (.slice (some ⟨b, 0, none⟩) 2 2) kWays := by
    refine ⟨fun _ _ => trivial, flat5 kWays, hown, rfl, fun j p hj => ?_⟩
    rcases j with _ | _ | j
    · obtain rfl : _ = p := Option.some.inj hj
      exact k71_mkM _ _ _ _
    · obtain rfl : _ = p := Option.some.inj hj
      exact k71_mkM _ _ _ _
    · simp [kWays] at hj
  exact (Kd.R_reads' h1).2.2
set_option maxRecDepth 100000 in
set_option maxHeartbeats 2000000 in
theorem knew_walk (w : World) : Calls Tryz.prog 12 #[.agg #[.slice (some ⟨w.heap.size, 0, none⟩) 3 3, .slice (some ⟨w.heap.size + 1, 0, none⟩) 2 2]]
      ((w.alloc (.cells #[.int .i64 0, .int .i64 1, .int .i64 2] 3)).alloc (.cells #[.int .i64 0, .int .i64 1, .int .i64 2, .int .i64 (-1), .int .i64 0, .int .i64 1, .int .i64 2, .int .i64 3, .int .i64 (-1), .int .i64 1] 71))
      fun r w' => ∃ xb x, r = .returned (.pointer (some ⟨xb, 0, none⟩)) ∧ HierRep w' xb 3 ⟨kRank, x, buildB kRank kWays 3 2 true, buildB kRank kWays 3 2 false⟩ ∧ (∀ u : Nat, u < 3 → rd x (rd kRank u) = u) ∧ Below w.heap.size w w' := by
  obtain ⟨w1, h1⟩ : ∃ w1, w.alloc (.cells #[.int .i64 0, .int .i64 1, .int .i64 2] 3) = w1 := ⟨_, rfl⟩
  have s1 : w1.heap.size = w.heap.size + 1 := by rw [← h1]; simp
  have k1 : w1.heap[w.heap.size]? = some (.cells #[.int .i64 0, .int .i64 1, .int .i64 2] 3 (0, 0)) := by rw [← h1]; exact blk_new w _
  have B1 : Below w.heap.size w w1 := by rw [← h1]; exact (Below.refl _ _).alloc (Nat.le_refl _) _
  rw [h1]
  obtain ⟨w2, h2⟩ : ∃ w2, w1.alloc (.cells #[.int .i64 0, .int .i64 1, .int .i64 2, .int .i64 (-1), .int .i64 0, .int .i64 1, .int .i64 2, .int .i64 3, .int .i64 (-1), .int .i64 1] 71) = w2 := ⟨_, rfl⟩
  have k2 : w2.heap[w.heap.size]? = some (.cells #[.int .i64 0, .int .i64 1, .int .i64 2] 3 (0, 0)) := by rw [← h2]; exact (Below.heap_alloc _ _ _ (by omega)).trans k1
  have k3 : w2.heap[w.heap.size + 1]? = some (.cells (flat5 kWays).toArray 71 (0, 0)) := by rw [← h2, ← s1]; exact blk_new w1 _
  have B2 : Below w.heap.size w w2 := by rw [← h2]; exact B1.alloc (by omega) _
  rw [h2]
  refine (hnew_walk w2 3 kRank kWays kV _ _ 3 2 (litI w2 _ kRank _ rfl k2 (by decide)) (litW w2 _ k3)).mono ?_
  rintro e w' ⟨xb, x, rfl, hR, hx, hB⟩
  exact ⟨xb, x, rfl, hR, hx, B2.trans (hB.mono B2.size)⟩
theorem k_at (x : List Int) (h : ∀ u : Nat, u < 3 → rd x (rd kRank u) = u) : greatL 3 x 2 = [2, 1] := by
  have h1 := h 1 (by omega)
  have h2 := h 2 (by omega)
  have e1 : rd kRank ((1 : Nat) : Int) = 1 := rfl
  have e2 : rd kRank ((2 : Nat) : Int) = 2 := rfl
  rw [e1] at h1
  rw [e2] at h2
  show [rd x ((2 : Nat) : Int), rd x ((1 : Nat) : Int)] = [2, 1]
  have h1' : rd x ((1 : Nat) : Int) = 1 := h1
  have h2' : rd x ((2 : Nat) : Int) = 2 := h2
  rw [h1', h2']
theorem own_C {w : World} {B : Nat} {v : Value} {l : List Int} {n : Nat} (h : w.ownsRow B 3 1 v n (ints l)) (hn : l.length = n) : ∃ A c, v = .slice A n c ∧ n ≤ c ∧ Kd.C (Kd.int .i64) w A n l := by
  subst hn
  have h1 : Kd.R (Kd.int .i64) 3 w B (fun _ => True) v l := Kd.R_of_own h (fun _ _ => trivial)
  exact Kd.R_reads h1
theorem great_known (w : World) (xb : Nat) (x : List Int) (up down : List (List S75)) (h : HierRep w xb 3 ⟨kRank, x, up, down⟩) (hx : ∀ u : Nat, u < 3 → rd x (rd kRank u) = u) :
    Calls Tryz.prog 44 #[.pointer (some ⟨xb, 0, none⟩), .int .i64 2] w fun r w' => ∃ A c, r = .returned (.slice A 2 c) ∧ 2 ≤ c ∧ Kd.C (Kd.int .i64) w' A 2 [1, 2] ∧ Below w.heap.size w w' := by
  refine (great_walk w xb 3 _ h 2).mono ?_
  rintro e w' ⟨vr, rfl, hown, hB⟩
  have e1 : (clipP 3 2).toNat = 2 := by decide
  rw [e1] at hown
  have e2 : greatL 3 x 2 = [2, 1] := k_at x hx
  have e3 : sortP [2, 1] = [1, 2] := by simp [sortP, List.mergeSort, List.MergeSort.Internal.splitInTwo, List.merge]
  have hown' : w'.ownsRow w.heap.size 3 1 vr 2 (ints [1, 2]) := by
    have := hown
    simp only at this
    rw [e2, e3] at this
    exact this
  obtain ⟨A, c, rfl, hc, hC⟩ := own_C hown' rfl
  exact ⟨A, c, rfl, hc, hC, hB⟩
theorem k_high (x : List Int) : highP 3 ⟨kRank, x, buildB kRank kWays 3 2 true, buildB kRank kWays 3 2 false⟩ 0 (lowAt 3 2) false = [⟨1, 2⟩] := by kernel_rfl
theorem k_low (x : List Int) : (lowP 3 ⟨kRank, x, buildB kRank kWays 3 2 true, buildB kRank kWays 3 2 false⟩ 0 (lowAt 3 2) false).map (·.f0) = [0] := by kernel_rfl
theorem litP (W : World) (b : Nat) (h : W.heap[b]? = some (.cells #[.int .i64 1, .int .i64 2] 37 (0, 0))) : Kd.C k37 W (some ⟨b, 0, none⟩) [(⟨1, 2⟩ : S37)].length [⟨1, 2⟩] := by
  have hown : W.ownsRow 0 37 2 (.slice (some ⟨b, 0, none⟩) 1 1) 1 [.int .i64 1, .int .i64 2] := ⟨rfl, .inr ⟨b, 1, _, rfl, by omega, h, Nat.le_refl _, by decide, rfl, rfl⟩⟩
  have h1 : Kd.R k37 37 W 0 (fun _ => True) (.slice (some ⟨b, 0, none⟩) 1 1) [⟨1, 2⟩] := by
    refine ⟨fun _ _ => trivial, _, hown, rfl, fun j p hj => ?_⟩
    rcases j with _ | j
    · obtain rfl : _ = p := Option.some.inj hj
      exact k37_mkM _ _ _ _
    · simp at hj
  exact (Kd.R_reads' h1).2.2
set_option maxRecDepth 100000 in
set_option maxHeartbeats 2000000 in
theorem known_walk (w : World) : Calls Tryz.prog 19 #[] w fun r w' => r = .returned (.bool true) ∧ Below w.heap.size w w' := by
  go_enter Tryz.func19, Tryz.ntmps19
  go_wp2_with fail
  refine (knew_walk w).mono ?_
  rintro e w3 ⟨xb, x, rfl, hR, hx, hB⟩
  have HR3 := Lib.hid hR
  have HX := Lib.hid hx
  have HB3 := Lib.hid hB
  have HOK := Lib.hid (hok_new kV x)
  clear hR hx hB
  go_wp2_with fail
  refine (great_known w3 xb x _ _ HR3.out HX.out).mono ?_
  rintro e w4 ⟨A, c, rfl, hc, hC, hB4⟩
  have HC := Lib.hid hC
  have HB4 := Lib.hid hB4
  clear hC hB4
  go_wp2_with fail
  refine (sameInts_walk _ A (some ⟨w4.heap.size, 0, none⟩) c 2 [1, 2] [1, 2] (Kd.C_alloc HC.out _) hc (litI _ _ [1, 2] _ rfl (blk_new w4 _) (by decide)) (by decide) (by decide)).mono ?_
  rintro e w5 ⟨rfl, hD⟩
  have HB5 : Hid (Below w.heap.size w w5) := Lib.hid (by
    obtain ⟨⟨j, rfl⟩⟩ := hD
    have h4 := HB3.out.trans (HB4.out.mono HB3.out.size)
    exact pw_below_drewN (h4.alloc h4.size _) j)
  have HR5 := Lib.hid (HR3.out.below (w1 := w5) (by
    obtain ⟨⟨j, rfl⟩⟩ := hD
    exact pw_below_drewN (HB4.out.alloc HB4.out.size _) j))
  have e1 : decide (([1, 2] : List Int) = [1, 2]) = true := by decide
  rw [e1]
  clear hD
  go_wp2_with fail
  refine (raw_walk w5 xb 3 _ _ HR5.out HOK.out 0 (by decide) 2 false).mono ?_
  rintro e w6 ⟨v6, rfl, hR6, hB6⟩
  have hR6' : Kd.R k37 37 w6 w5.heap.size (fun _ => True) v6 [⟨1, 2⟩] := by have := hR6; rw [k_high x] at this; exact this
  obtain ⟨A6, c6, hv6, hc6, hC6⟩ := Kd.R_reads hR6'
  have hv6' : v6 = .slice A6 1 c6 := hv6
  subst hv6'
  have HC6 := Lib.hid hC6
  have HB6 := Lib.hid hB6
  have HR6 := Lib.hid (HR5.out.below hB6)
  clear hR6 hR6' hC6 hB6 hv6
  go_wp2_with fail
  refine (samePairs_walk _ A6 (some ⟨w6.heap.size, 0, none⟩) c6 1 [⟨1, 2⟩] [⟨1, 2⟩] (Kd.C_alloc HC6.out _) hc6 (litP _ _ (blk_new w6 _)) (by decide) (by decide)).mono ?_
  rintro e w7 ⟨b7, rfl, hb7, hD⟩
  obtain rfl : b7 = true := hb7.2 rfl
  have HB7 : Hid (Below w.heap.size w w7) := Lib.hid (by
    obtain ⟨⟨j, rfl⟩⟩ := hD
    have h4 := HB5.out.trans (HB6.out.mono HB5.out.size)
    exact pw_below_drewN (h4.alloc h4.size _) j)
  have HR7 := Lib.hid (HR6.out.below (w1 := w7) (by
    obtain ⟨⟨j, rfl⟩⟩ := hD
    exact pw_below_drewN ((Below.refl _ _).alloc (Nat.le_refl _) _) j))
  clear hD hb7
  go_wp2_with fail
  refine (sub_walk w7 xb 3 _ _ HR7.out HOK.out 0 (by decide) 2 false).mono ?_
  rintro e w8 ⟨v8, rfl, hR8, hB8⟩
  have hR8' : Kd.R (Kd.int .i64) 3 w8 w7.heap.size (fun _ => True) v8 [0] := by have := hR8; rw [k_low x] at this; exact this
  obtain ⟨A8, c8, hv8, hc8, hC8⟩ := Kd.R_reads hR8'
  have hv8' : v8 = .slice A8 1 c8 := hv8
  subst hv8'
  have HC8 := Lib.hid hC8
  have HB8 := Lib.hid hB8
  clear hR8 hR8' hC8 hB8 hv8
  go_wp2_with fail
  refine (sameInts_walk _ A8 (some ⟨w8.heap.size, 0, none⟩) c8 1 [0] [0] (Kd.C_alloc HC8.out _) hc8 (litI _ _ [0] _ rfl (blk_new w8 _) (by decide)) (by decide) (by decide)).mono ?_
  rintro e w9 ⟨rfl, hD⟩
  have e3 : decide (([0] : List Int) = [0]) = true := by decide
  rw [e3]
  have HB9 : Hid (Below w.heap.size w w9) := Lib.hid (by
    obtain ⟨⟨j, rfl⟩⟩ := hD
    have h4 := HB7.out.trans (HB8.out.mono HB7.out.size)
    exact pw_below_drewN (h4.alloc h4.size _) j)
  clear hD
  go_wp2_with fail
  go_ret
  exact ⟨rfl, HB9.out⟩
end Go.Proofs.YtfkejflmhidnaaaGreat.PAll
