import Derived.Test.YtfkejflmhidnaaaGreatQTtB
import Derived.Test.YtfkejflmhidnaaaGreatQTpA
set_option linter.all false
namespace Go.Proofs.YtfkejflmhidnaaaGreat.PAll
open RowKit YW.PrintWords YW.PrintLast YW.PrintMore
open Hp hiding Good
def WkN (E : Int → Int → Int → Prop) : Nat → Int → Int → Int → Prop
 | 0, a, b, d => a = b ∧ d = 0
 | n + 1, a, c, d => ∃ b e w, WkN E n a b e ∧ E b c w ∧ d = e + w
def Wk (E : Int → Int → Int → Prop) (a b d : Int) : Prop := ∃ n, WkN E n a b d
theorem Wk.nil (E : Int → Int → Int → Prop) (a : Int) : Wk E a a 0 := ⟨0, rfl, rfl⟩
theorem Wk.snoc {E : Int → Int → Int → Prop} {a b c d w : Int} (h : Wk E a b d) (g : E b c w) : Wk E a c (d + w) := by
 obtain ⟨n, h⟩ := h
 exact ⟨n + 1, b, d, w, h, g, rfl⟩
theorem Wk.one {E : Int → Int → Int → Prop} {a b w : Int} (g : E a b w) : Wk E a b w := by
 have := (Wk.nil E a).snoc g
 rwa [Int.zero_add] at this
theorem Wk.append {E : Int → Int → Int → Prop} {a b c d e : Int} (h : Wk E a b d) (g : Wk E b c e) : Wk E a c (d + e) := by
 obtain ⟨n, g⟩ := g
 induction n generalizing c e with
 | zero =>
  obtain ⟨rfl, rfl⟩ := g
  rwa [Int.add_zero]
 | succ n ih =>
  obtain ⟨x, y, z, k1, k2, rfl⟩ := g
  have := (ih k1).snoc k2
  rwa [Int.add_assoc] at this
theorem Wk.bind {E F : Int → Int → Int → Prop} (hEF : ∀ a b w, E a b w → Wk F a b w) {a b d : Int} (h : Wk E a b d) : Wk F a b d := by
 obtain ⟨n, h⟩ := h
 induction n generalizing b d with
 | zero =>
  obtain ⟨rfl, rfl⟩ := h
  exact Wk.nil F a
 | succ n ih =>
  obtain ⟨x, y, z, k1, k2, rfl⟩ := h
  exact (ih k1).append (hEF _ _ _ k2)
theorem Wk.imp {E F : Int → Int → Int → Prop} (hEF : ∀ a b w, E a b w → F a b w) {a b d : Int} (h : Wk E a b d) : Wk F a b d := h.bind (fun a b w g => Wk.one (hEF a b w g))
end Go.Proofs.YtfkejflmhidnaaaGreat.PAll
