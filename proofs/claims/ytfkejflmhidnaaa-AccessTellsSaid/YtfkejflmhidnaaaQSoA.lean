import Derived.Shelf.Sort.Plain
import Derived.Shelf.Slices.In.SortNone
import Derived.Ground.NamesProg
import Derived.Test.YtfkejflmhidnaaaProg
import Derived.Test.YtfkejflmhidnaaaQClB
import Derived.Sort.OwnSortedInts
set_option linter.all false
namespace Go.Proofs
open Go.Shelf
def Try.laysSort_ren : Go.Shelf.Ren := ⟨fun | 189 => 44 | 125 => 73 | 257 => 72 | 128 => 104 | 129 => 105 | 294 => 96 | 295 => 97 | 296 => 98 | 297 => 99 | 298 => 100 | 299 => 101 | 216 => 79 | 300 => 102 | 301 => 103 | 328 => 116 | 329 => 117 | 330 => 118 | 331 => 119 | 332 => 120 | 215 => 77 | 343 => 128 | n => n, fun | 28 => 28 | 3 => 3 | 46 => 121 | 0 => 0 | 51 => 151 | 53 => 153 | 4 => 4 | 183 => 145 | 182 => 144 | 131 => 95 | 5 => 5 | 9 => 9 | 218 => 164 | 222 => 168 | 228 => 181 | 229 => 90 | n => n, fun | n => n⟩
theorem Try.laysSort : Go.Proofs.Lays.n189 Try.prog Try.laysSort_ren := {
  mixed := by kernel_rfl
  f125 := Try.func73.trans (congrArg some (by kernel_rfl))
  f128 := Try.func104.trans (congrArg some (by kernel_rfl))
  f129 := Try.func105.trans (congrArg some (by kernel_rfl))
  f189 := Try.func44.trans (congrArg some (by kernel_rfl))
  f215 := Try.func77.trans (congrArg some (by kernel_rfl))
  f216 := Try.func79.trans (congrArg some (by kernel_rfl))
  f257 := Try.func72.trans (congrArg some (by kernel_rfl))
  f294 := Try.func96.trans (congrArg some (by kernel_rfl))
  f295 := Try.func97.trans (congrArg some (by kernel_rfl))
  f296 := Try.func98.trans (congrArg some (by kernel_rfl))
  f297 := Try.func99.trans (congrArg some (by kernel_rfl))
  f298 := Try.func100.trans (congrArg some (by kernel_rfl))
  f299 := Try.func101.trans (congrArg some (by kernel_rfl))
  f300 := Try.func102.trans (congrArg some (by kernel_rfl))
  f301 := Try.func103.trans (congrArg some (by kernel_rfl))
  f328 := Try.func116.trans (congrArg some (by kernel_rfl))
  f329 := Try.func117.trans (congrArg some (by kernel_rfl))
  f330 := Try.func118.trans (congrArg some (by kernel_rfl))
  f331 := Try.func119.trans (congrArg some (by kernel_rfl))
  f332 := Try.func120.trans (congrArg some (by kernel_rfl))
  f343 := Try.func128.trans (congrArg some (by kernel_rfl))
  t0 := Try.underlying0
  a0 := Try.isAgg0
  z0 := Try.sizeOf0
  v0 := Try.zeroValue0
  t3 := Try.underlying3
  a3 := Try.isAgg3
  z3 := Try.sizeOf3
  v3 := Try.zeroValue3
  t4 := Try.underlying4
  a4 := Try.isAgg4
  z4 := Try.sizeOf4
  v4 := Try.zeroValue4
  t5 := Try.underlying5
  a5 := Try.isAgg5
  z5 := Try.sizeOf5
  v5 := Try.zeroValue5
  t9 := Try.underlying9
  a9 := Try.isAgg9
  z9 := Try.sizeOf9
  v9 := Try.zeroValue9
  t28 := Try.underlying28
  a28 := Try.isAgg28
  z28 := Try.sizeOf28
  v28 := Try.zeroValue28
  t46 := Try.underlying121
  a46 := Try.isAgg121
  z46 := Try.sizeOf121
  v46 := Try.zeroValue121
  t51 := Try.underlying151
  a51 := Try.isAgg151
  z51 := Try.sizeOf151
  v51 := Try.zeroValue151
  t53 := Try.underlying153
  a53 := Try.isAgg153
  z53 := Try.sizeOf153
  v53 := Try.zeroValue153
  t131 := Try.underlying95
  a131 := Try.isAgg95
  z131 := Try.sizeOf95
  v131 := Try.zeroValue95
  t182 := Try.underlying144
  a182 := Try.isAgg144
  z182 := Try.sizeOf144
  v182 := Try.zeroValue144
  t183 := Try.underlying145
  a183 := Try.isAgg145
  z183 := Try.sizeOf145
  v183 := Try.zeroValue145
  t218 := Try.underlying164
  a218 := Try.isAgg164
  z218 := Try.sizeOf164
  v218 := Try.zeroValue164
  t222 := Try.underlying168
  a222 := Try.isAgg168
  z222 := Try.sizeOf168
  v222 := Try.zeroValue168
  t228 := Try.underlying181
  a228 := Try.isAgg181
  z228 := Try.sizeOf181
  v228 := Try.zeroValue181
  t229 := Try.underlying90
  a229 := Try.isAgg90
  z229 := Try.sizeOf90
  v229 := Try.zeroValue90 }
end Go.Proofs
namespace Go.Proofs.Ytfkejflmhidnaaa.PAll
open Go.RowKit Go.Shelf Go.Sort Go.Proofs.YtfkejflmhidnaaaW.PrintWords Go.Proofs.YtfkejflmhidnaaaW.PrintLast Go.Proofs.YtfkejflmhidnaaaW.PrintMore
open Hp hiding Good
def sortP (l : List Int) : List Int := l.mergeSort fun x y => decide (x ≤ y)
theorem sortP_perm (l : List Int) : (sortP l).Perm l := List.mergeSort_perm _ _
theorem sortP_len (l : List Int) : (sortP l).length = l.length := (sortP_perm l).length_eq
theorem sort_walk (w : World) (B : Nat) (v : Value) (l : List Int) (h : w.ownsRow B 3 1 v l.length (ints l)) (hl : l.length ≤ 1000000) :
    Calls Try.prog 44 #[v] w fun r w' => r = .returned (.tuple #[]) ∧ w'.ownsRow B 3 1 v l.length (ints (sortP l)) ∧ Only w w' (fun k => v.ownBlock = some k) := by
  have H := h
  obtain ⟨h1, h2⟩ := h
  rcases h2 with ⟨h2, h3⟩ | ⟨g, cap, cur, rfl, hb, hg, hnc, hcm, hcs, htake⟩
  · have hn : l = [] := List.eq_nil_of_length_eq_zero h3
    subst hn
    subst h2
    have hcon : Calls Try.prog 44 #[.slice none 0 0] w _ := calls_of_every_depth fun D => AnyS.slices_Sort_int_none_in Try.laysSort D none 0 w
    refine hcon.mono ?_
    rintro e w' ⟨rfl, rfl⟩
    refine ⟨rfl, ?_, Only.refl _ _⟩
    rw [show sortP [] = [] by simp [sortP]]
    exact H
  · have hH : Holds (Value.int .i64) w g 0 l.toArray := holds_of_blockI hg (by simpa [ints] using htake)
    have hcon := Any.slices_Sort_int Try.laysSort g 0 cap l w hH (blk_lt hg) (by omega)
    change Calls Try.prog 44 _ _ _ at hcon
    refine hcon.mono ?_
    rintro e w' ⟨rfl, n, os, rfl⟩
    refine ⟨rfl, ?_, ?_⟩
    · have := ownsRow_sortedI (os := os) (n := n) (ss := l) (ts := sortP l) (base := B) (sortP_len l) hb hg hnc hcm hcs
      exact this
    · exact (Only.of_grown (grownBy_sortedI (w := w) (g := g) (n := n) (os := os) (sortP l).toArray)).mono (fun k _ hk => by cases hk; rfl)
end Go.Proofs.Ytfkejflmhidnaaa.PAll
