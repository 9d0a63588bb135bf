/-
  No cell of these rows narrows 'for every input' (looked for: loops, veiled, ifaces, maps, wideKeys, modest, calm, conditions, laid).
  DERIVED. THE GIVEN ROWS OF THIS SEAT. 5 by the template 'for every input the law returns true; each argument reads behind the call as it read before'; 0 by the template 'total and deterministic' (their statements: YtfkejflmhidnaaaTotals.lean).
  GIVEN WITH THE SEED: the statements are not yours to turn. If you find one false, say at which input.
  Laid BY PROGRAM, IN A SANDBOX (cutbox-rows.mjs): the forced cells as the released guide's own fill.sh prints them over the translation 40ac069b8a5a32ab… (all of the seat's roots in one cut). By AI agents, Wed Nov 11 2026. No macro, syntax, notation, axiom, sorry.
-/
import Derived.Test.YtfkejflmhidnaaaChecked
import GoSem.Claim
import GoSem.ClaimJoined
import GoSem.ClaimMapViews
import Derived.JoinedTies
import Derived.KernelRfl
namespace Go.Proofs.Ytfkejflmhidnaaa
/- THE CELL 'sum', in the pinned program and in every row, IS THE sha256 OF THE DUMP (.gsa) THAT YtfkejflmhidnaaaProg.lean LOADS. Nothing in Lean hashes anything: it is a label: what it is worth is what the hold of that sum in a sandbox is worth. -/
noncomputable def Try.pinned : Pinned := { name := "ytfkejflmhidnaaa", sum := "40ac069b8a5a32ab77888880a9e7b4ffdd4350896b07f66d876c22adb50f06ac", checked := Try.checked }
namespace Rows
def none {H : Type} : Left H := { results := [], args := [] }

/-- 'postroadlaw14.AccessFewer': WHATEVER THE INPUT: true; the input reads as it did. -/
def accessFewerSpec : ChangeSpec := { name := "accessFewer", fn := fun _ => fun
  | [d1, d2, d3, d4, d5] => { results := [.lit (.bool true)], args := [d1, d2, d3, d4, d5] }
  | _ => none }
def accessFewerRow : OpenClaim := { program := "ytfkejflmhidnaaa", sum := "40ac069b8a5a32ab77888880a9e7b4ffdd4350896b07f66d876c22adb50f06ac", func := "postroad/postroadlaw14.AccessFewer", spec := "accessFewer", unfollowed := true, recurses := true, plainKeys := false, apart := false }
def AccessFewerSaid : Prop := accessFewerRow.holds Try.pinned (OpenSpec.ofChange accessFewerSpec)

/-- ITS FALSE NEIGHBOUR: 'it returns false'. Refute it at one input. -/
def accessFewerWrong : ChangeSpec := { name := "accessFewer", fn := fun _ => fun
  | [d1, d2, d3, d4, d5] => { results := [.lit (.bool false)], args := [d1, d2, d3, d4, d5] }
  | _ => none }
def AccessFewerWrongFalsely : Prop := accessFewerRow.holds Try.pinned (OpenSpec.ofChange accessFewerWrong)

/-- 'postroadlaw14.AccessTells': WHATEVER THE INPUT: true; the input reads as it did. -/
def accessTellsSpec : ChangeSpec := { name := "accessTells", fn := fun _ => fun
  | [d1, d2, d3] => { results := [.lit (.bool true)], args := [d1, d2, d3] }
  | _ => none }
def accessTellsRow : OpenClaim := { program := "ytfkejflmhidnaaa", sum := "40ac069b8a5a32ab77888880a9e7b4ffdd4350896b07f66d876c22adb50f06ac", func := "postroad/postroadlaw14.AccessTells", spec := "accessTells", unfollowed := true, recurses := true, plainKeys := false, apart := false }
def AccessTellsSaid : Prop := accessTellsRow.holds Try.pinned (OpenSpec.ofChange accessTellsSpec)

/-- ITS FALSE NEIGHBOUR: 'it returns false'. Refute it at one input. -/
def accessTellsWrong : ChangeSpec := { name := "accessTells", fn := fun _ => fun
  | [d1, d2, d3] => { results := [.lit (.bool false)], args := [d1, d2, d3] }
  | _ => none }
def AccessTellsWrongFalsely : Prop := accessTellsRow.holds Try.pinned (OpenSpec.ofChange accessTellsWrong)

/-- 'postroadlaw14.AccessGreat': WHATEVER THE INPUT: true; the input reads as it did. -/
def accessGreatSpec : ChangeSpec := { name := "accessGreat", fn := fun _ => fun
  | [d1, d2, d3] => { results := [.lit (.bool true)], args := [d1, d2, d3] }
  | _ => none }
def accessGreatRow : OpenClaim := { program := "ytfkejflmhidnaaa", sum := "40ac069b8a5a32ab77888880a9e7b4ffdd4350896b07f66d876c22adb50f06ac", func := "postroad/postroadlaw14.AccessGreat", spec := "accessGreat", unfollowed := true, recurses := true, plainKeys := false, apart := false }
def AccessGreatSaid : Prop := accessGreatRow.holds Try.pinned (OpenSpec.ofChange accessGreatSpec)

/-- ITS FALSE NEIGHBOUR: 'it returns false'. Refute it at one input. -/
def accessGreatWrong : ChangeSpec := { name := "accessGreat", fn := fun _ => fun
  | [d1, d2, d3] => { results := [.lit (.bool false)], args := [d1, d2, d3] }
  | _ => none }
def AccessGreatWrongFalsely : Prop := accessGreatRow.holds Try.pinned (OpenSpec.ofChange accessGreatWrong)

/-- 'postroadlaw14.AccessMakes': WHATEVER THE INPUT: true; the input reads as it did. -/
def accessMakesSpec : ChangeSpec := { name := "accessMakes", fn := fun _ => fun
  | [d1, d2, d3, d4, d5] => { results := [.lit (.bool true)], args := [d1, d2, d3, d4, d5] }
  | _ => none }
def accessMakesRow : OpenClaim := { program := "ytfkejflmhidnaaa", sum := "40ac069b8a5a32ab77888880a9e7b4ffdd4350896b07f66d876c22adb50f06ac", func := "postroad/postroadlaw14.AccessMakes", spec := "accessMakes", unfollowed := true, recurses := true, plainKeys := false, apart := false }
def AccessMakesSaid : Prop := accessMakesRow.holds Try.pinned (OpenSpec.ofChange accessMakesSpec)

/-- ITS FALSE NEIGHBOUR: 'it returns false'. Refute it at one input. -/
def accessMakesWrong : ChangeSpec := { name := "accessMakes", fn := fun _ => fun
  | [d1, d2, d3, d4, d5] => { results := [.lit (.bool false)], args := [d1, d2, d3, d4, d5] }
  | _ => none }
def AccessMakesWrongFalsely : Prop := accessMakesRow.holds Try.pinned (OpenSpec.ofChange accessMakesWrong)

/-- 'postroadlaw14.AccessTurned': WHATEVER THE INPUT: true; the input reads as it did. -/
def accessTurnedSpec : ChangeSpec := { name := "accessTurned", fn := fun _ => fun
  | [d1, d2, d3, d4, d5, d6] => { results := [.lit (.bool true)], args := [d1, d2, d3, d4, d5, d6] }
  | _ => none }
def accessTurnedRow : OpenClaim := { program := "ytfkejflmhidnaaa", sum := "40ac069b8a5a32ab77888880a9e7b4ffdd4350896b07f66d876c22adb50f06ac", func := "postroad/postroadlaw14.AccessTurned", spec := "accessTurned", unfollowed := true, recurses := true, plainKeys := false, apart := false }
def AccessTurnedSaid : Prop := accessTurnedRow.holds Try.pinned (OpenSpec.ofChange accessTurnedSpec)

/-- ITS FALSE NEIGHBOUR: 'it returns false'. Refute it at one input. -/
def accessTurnedWrong : ChangeSpec := { name := "accessTurned", fn := fun _ => fun
  | [d1, d2, d3, d4, d5, d6] => { results := [.lit (.bool false)], args := [d1, d2, d3, d4, d5, d6] }
  | _ => none }
def AccessTurnedWrongFalsely : Prop := accessTurnedRow.holds Try.pinned (OpenSpec.ofChange accessTurnedWrong)

/- THE SECOND FORM. 'bulk': how many values and letters a reading holds, each counted each time it is reached (what is shared counts as often as it is met; a slice's spare places count too). A statement '..UptoSaid' is the law's where the arguments, and the package variables that the reading takes, are together of bulk at most 1048576: NARROWER than '..Said'. Prove '..Said' where nothing that the law and all that it calls make is longer than what came in: it says more and counts as full. Else prove '..UptoSaid'. A law counts once. -/
mutual
def uptoBulk {H : Type} : DataW H → Nat
  | .lit (.string bytes) => bytes.length + 1
  | .lit _ => 1
  | .nil => 1
  | .ptr d => uptoBulk d + 1
  | .slice elems spare => uptoBulkAll elems + uptoBulkAll spare + 1
  | .agg parts => uptoBulkAll parts + 1
  | .iface _ d => uptoBulk d + 1
  | .map entries => uptoBulkEntries entries + 1
  | .held _ => 1
def uptoBulkAll {H : Type} : List (DataW H) → Nat
  | [] => 0
  | d :: r => uptoBulk d + uptoBulkAll r
def uptoBulkEntries {H : Type} : List (Lit × DataW H) → Nat
  | [] => 0
  | x :: r => uptoBulkEntry x + uptoBulkEntries r
def uptoBulkEntry {H : Type} : Lit × DataW H → Nat
  | (.string bytes, d) => bytes.length + uptoBulk d + 1
  | (_, d) => uptoBulk d + 1
 end
def uptoSmall : (H : Type) → List (DataW H) → Bool := fun _ ds => decide (uptoBulkAll ds ≤ 1048576)
def OpenSpec.upto (s : _root_.Go.ChangeSpec) : _root_.Go.OpenSpec := { _root_.Go.OpenSpec.ofChange s with cond := some uptoSmall }

/-- 'postroadlaw14.AccessFewer', WHERE WHAT IT READS IS OF BULK AT MOST 1048576: true; the input reads as it did. -/
def accessFewerUptoRow : OpenClaim := { program := "ytfkejflmhidnaaa", sum := "40ac069b8a5a32ab77888880a9e7b4ffdd4350896b07f66d876c22adb50f06ac", func := "postroad/postroadlaw14.AccessFewer", spec := "accessFewer", unfollowed := true, recurses := true, plainKeys := false, apart := false, narrowed := true }
def AccessFewerUptoSaid : Prop := accessFewerUptoRow.holds Try.pinned (OpenSpec.upto accessFewerSpec)

/-- 'postroadlaw14.AccessTells', WHERE WHAT IT READS IS OF BULK AT MOST 1048576: true; the input reads as it did. -/
def accessTellsUptoRow : OpenClaim := { program := "ytfkejflmhidnaaa", sum := "40ac069b8a5a32ab77888880a9e7b4ffdd4350896b07f66d876c22adb50f06ac", func := "postroad/postroadlaw14.AccessTells", spec := "accessTells", unfollowed := true, recurses := true, plainKeys := false, apart := false, narrowed := true }
def AccessTellsUptoSaid : Prop := accessTellsUptoRow.holds Try.pinned (OpenSpec.upto accessTellsSpec)

/-- 'postroadlaw14.AccessGreat', WHERE WHAT IT READS IS OF BULK AT MOST 1048576: true; the input reads as it did. -/
def accessGreatUptoRow : OpenClaim := { program := "ytfkejflmhidnaaa", sum := "40ac069b8a5a32ab77888880a9e7b4ffdd4350896b07f66d876c22adb50f06ac", func := "postroad/postroadlaw14.AccessGreat", spec := "accessGreat", unfollowed := true, recurses := true, plainKeys := false, apart := false, narrowed := true }
def AccessGreatUptoSaid : Prop := accessGreatUptoRow.holds Try.pinned (OpenSpec.upto accessGreatSpec)

/-- 'postroadlaw14.AccessMakes', WHERE WHAT IT READS IS OF BULK AT MOST 1048576: true; the input reads as it did. -/
def accessMakesUptoRow : OpenClaim := { program := "ytfkejflmhidnaaa", sum := "40ac069b8a5a32ab77888880a9e7b4ffdd4350896b07f66d876c22adb50f06ac", func := "postroad/postroadlaw14.AccessMakes", spec := "accessMakes", unfollowed := true, recurses := true, plainKeys := false, apart := false, narrowed := true }
def AccessMakesUptoSaid : Prop := accessMakesUptoRow.holds Try.pinned (OpenSpec.upto accessMakesSpec)

/-- 'postroadlaw14.AccessTurned', WHERE WHAT IT READS IS OF BULK AT MOST 1048576: true; the input reads as it did. -/
def accessTurnedUptoRow : OpenClaim := { program := "ytfkejflmhidnaaa", sum := "40ac069b8a5a32ab77888880a9e7b4ffdd4350896b07f66d876c22adb50f06ac", func := "postroad/postroadlaw14.AccessTurned", spec := "accessTurned", unfollowed := true, recurses := true, plainKeys := false, apart := false, narrowed := true }
def AccessTurnedUptoSaid : Prop := accessTurnedUptoRow.holds Try.pinned (OpenSpec.upto accessTurnedSpec)

end Rows
end Go.Proofs.Ytfkejflmhidnaaa
