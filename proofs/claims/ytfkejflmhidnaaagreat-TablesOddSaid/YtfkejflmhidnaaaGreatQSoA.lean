import Derived.Shelf.Sort.Plain
import Derived.Shelf.Slices.In.SortNone
import Derived.Ground.NamesProg
import Derived.Test.YtfkejflmhidnaaaGreatProg
import Derived.Test.YtfkejflmhidnaaaGreatQClB
import Derived.Sort.OwnSortedInts
set_option linter.all false
namespace Go.Proofs
open Go.Shelf
def Tryz.laysSort_ren : Go.Shelf.Ren := ⟨fun | 189 => 97 | 125 => 127 | 257 => 126 | 128 => 151 | 129 => 152 | 294 => 143 | 295 => 144 | 296 => 145 | 297 => 146 | 298 => 147 | 299 => 148 | 216 => 92 | 300 => 149 | 301 => 150 | 328 => 158 | 329 => 159 | 330 => 160 | 331 => 161 | 332 => 162 | 215 => 123 | 343 => 169 | n => n, fun | 28 => 28 | 3 => 3 | 46 => 138 | 0 => 0 | 51 => 192 | 53 => 194 | 4 => 4 | 183 => 186 | 182 => 185 | 131 => 58 | 5 => 5 | 9 => 9 | 218 => 206 | 222 => 210 | 228 => 215 | 229 => 82 | n => n, fun | n => n⟩
theorem Tryz.laysSort : Go.Proofs.Lays.n189 Tryz.prog Tryz.laysSort_ren := {
 mixed := by kernel_rfl
 f125 := Tryz.func127.trans (congrArg some (by kernel_rfl))
 f128 := Tryz.func151.trans (congrArg some (by kernel_rfl))
 f129 := Tryz.func152.trans (congrArg some (by kernel_rfl))
 f189 := Tryz.func97.trans (congrArg some (by kernel_rfl))
 f215 := Tryz.func123.trans (congrArg some (by kernel_rfl))
 f216 := Tryz.func92.trans (congrArg some (by kernel_rfl))
 f257 := Tryz.func126.trans (congrArg some (by kernel_rfl))
 f294 := Tryz.func143.trans (congrArg some (by kernel_rfl))
 f295 := Tryz.func144.trans (congrArg some (by kernel_rfl))
 f296 := Tryz.func145.trans (congrArg some (by kernel_rfl))
 f297 := Tryz.func146.trans (congrArg some (by kernel_rfl))
 f298 := Tryz.func147.trans (congrArg some (by kernel_rfl))
 f299 := Tryz.func148.trans (congrArg some (by kernel_rfl))
 f300 := Tryz.func149.trans (congrArg some (by kernel_rfl))
 f301 := Tryz.func150.trans (congrArg some (by kernel_rfl))
 f328 := Tryz.func158.trans (congrArg some (by kernel_rfl))
 f329 := Tryz.func159.trans (congrArg some (by kernel_rfl))
 f330 := Tryz.func160.trans (congrArg some (by kernel_rfl))
 f331 := Tryz.func161.trans (congrArg some (by kernel_rfl))
 f332 := Tryz.func162.trans (congrArg some (by kernel_rfl))
 f343 := Tryz.func169.trans (congrArg some (by kernel_rfl))
 t0 := Tryz.underlying0
 a0 := Tryz.isAgg0
 z0 := Tryz.sizeOf0
 v0 := Tryz.zeroValue0
 t3 := Tryz.underlying3
 a3 := Tryz.isAgg3
 z3 := Tryz.sizeOf3
 v3 := Tryz.zeroValue3
 t4 := Tryz.underlying4
 a4 := Tryz.isAgg4
 z4 := Tryz.sizeOf4
 v4 := Tryz.zeroValue4
 t5 := Tryz.underlying5
 a5 := Tryz.isAgg5
 z5 := Tryz.sizeOf5
 v5 := Tryz.zeroValue5
 t9 := Tryz.underlying9
 a9 := Tryz.isAgg9
 z9 := Tryz.sizeOf9
 v9 := Tryz.zeroValue9
 t28 := Tryz.underlying28
 a28 := Tryz.isAgg28
 z28 := Tryz.sizeOf28
 v28 := Tryz.zeroValue28
 t46 := Tryz.underlying138
 a46 := Tryz.isAgg138
 z46 := Tryz.sizeOf138
 v46 := Tryz.zeroValue138
 t51 := Tryz.underlying192
 a51 := Tryz.isAgg192
 z51 := Tryz.sizeOf192
 v51 := Tryz.zeroValue192
 t53 := Tryz.underlying194
 a53 := Tryz.isAgg194
 z53 := Tryz.sizeOf194
 v53 := Tryz.zeroValue194
 t131 := Tryz.underlying58
 a131 := Tryz.isAgg58
 z131 := Tryz.sizeOf58
 v131 := Tryz.zeroValue58
 t182 := Tryz.underlying185
 a182 := Tryz.isAgg185
 z182 := Tryz.sizeOf185
 v182 := Tryz.zeroValue185
 t183 := Tryz.underlying186
 a183 := Tryz.isAgg186
 z183 := Tryz.sizeOf186
 v183 := Tryz.zeroValue186
 t218 := Tryz.underlying206
 a218 := Tryz.isAgg206
 z218 := Tryz.sizeOf206
 v218 := Tryz.zeroValue206
 t222 := Tryz.underlying210
 a222 := Tryz.isAgg210
 z222 := Tryz.sizeOf210
 v222 := Tryz.zeroValue210
 t228 := Tryz.underlying215
 a228 := Tryz.isAgg215
 z228 := Tryz.sizeOf215
 v228 := Tryz.zeroValue215
 t229 := Tryz.underlying82
 a229 := Tryz.isAgg82
 z229 := Tryz.sizeOf82
 v229 := Tryz.zeroValue82 }
end Go.Proofs
namespace Go.Proofs.YtfkejflmhidnaaaGreat.PAll
open Go.RowKit Go.Shelf Go.Sort Go.Proofs.YtfkejflmhidnaaaGreatW.PrintWords Go.Proofs.YtfkejflmhidnaaaGreatW.PrintLast Go.Proofs.YtfkejflmhidnaaaGreatW.PrintMore
open Hp hiding Good
def sortP (l : List Int) : List Int := l.mergeSort fun x y => decide (x ≤ y)
theorem sortP_perm (l : List Int) : (sortP l).Perm l := List.mergeSort_perm _ _
theorem sortP_len (l : List Int) : (sortP l).length = l.length := (sortP_perm l).length_eq
theorem sort_walk (w : World) (B : Nat) (v : Value) (l : List Int) (h : w.ownsRow B 3 1 v l.length (ints l)) (hl : l.length ≤ 1000000) :
  Calls Tryz.prog 97 #[v] w fun r w' => r = .returned (.tuple #[]) ∧ w'.ownsRow B 3 1 v l.length (ints (sortP l)) ∧ Only w w' (fun k => v.ownBlock = some k) := by
 have H := h
 obtain ⟨h1, h2⟩ := h
 rcases h2 with ⟨h2, h3⟩ | ⟨g, cap, cur, rfl, hb, hg, hnc, hcm, hcs, htake⟩
 ·have hn : l = [] := List.eq_nil_of_length_eq_zero h3
  subst hn
  subst h2
  have hcon : Calls Tryz.prog 97 #[.slice none 0 0] w _ := calls_of_every_depth fun D => AnyS.slices_Sort_int_none_in Tryz.laysSort D none 0 w
  refine hcon.mono ?_
  rintro e w' ⟨rfl, rfl⟩
  refine ⟨rfl, ?_, Only.refl _ _⟩
  rw [show sortP [] = [] by simp [sortP]]
  exact H
 ·have hH : Holds (Value.int .i64) w g 0 l.toArray := holds_of_blockI hg (by simpa [ints] using htake)
  have hcon := Any.slices_Sort_int Tryz.laysSort g 0 cap l w hH (blk_lt hg) (by omega)
  change Calls Tryz.prog 97 _ _ _ at hcon
  refine hcon.mono ?_
  rintro e w' ⟨rfl, n, os, rfl⟩
  refine ⟨rfl, ?_, ?_⟩
  ·have := ownsRow_sortedI (os := os) (n := n) (ss := l) (ts := sortP l) (base := B) (sortP_len l) hb hg hnc hcm hcs
   exact this
  ·exact (Only.of_grown (grownBy_sortedI (w := w) (g := g) (n := n) (os := os) (sortP l).toArray)).mono (fun k _ hk => by cases hk; rfl)
end Go.Proofs.YtfkejflmhidnaaaGreat.PAll
