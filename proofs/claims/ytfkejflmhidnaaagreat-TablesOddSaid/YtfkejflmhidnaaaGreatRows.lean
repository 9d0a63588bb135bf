/-
  No cell of these rows narrows 'for every input' (looked for: loops, veiled, ifaces, maps, wideKeys, modest, calm, conditions, laid).
  DERIVED. THE GIVEN ROWS OF THIS SEAT. 8 by the template 'for every input the law returns true; each argument reads behind the call as it read before'; 0 by the template 'total and deterministic' (their statements: YtfkejflmhidnaaaGreatTotals.lean).
  GIVEN WITH THE SEED: the statements are not yours to turn. If you find one false, say at which input.
  Laid BY PROGRAM, IN A SANDBOX (cutbox-rows.mjs): the forced cells as the released guide's own fill.sh prints them over the translation d346ed45bca9cf4b… (all of the seat's roots in one cut). By AI agents, Wed Nov 11 2026. No macro, syntax, notation, axiom, sorry.
-/
import Derived.Test.YtfkejflmhidnaaaGreatChecked
import GoSem.Claim
import GoSem.ClaimJoined
import GoSem.ClaimMapViews
import Derived.JoinedTies
import Derived.KernelRfl
namespace Go.Proofs.YtfkejflmhidnaaaGreat
/- THE CELL 'sum', in the pinned program and in every row, IS THE sha256 OF THE DUMP (.gsa) THAT YtfkejflmhidnaaaGreatProg.lean LOADS. Nothing in Lean hashes anything: it is a label: what it is worth is what the hold of that sum in a sandbox is worth. -/
noncomputable def Tryz.pinned : Pinned := { name := "ytfkejflmhidnaaagreat", sum := "d346ed45bca9cf4b63d5416f7a094fe9cba598854418dededafb62c3c12a3416", checked := Tryz.checked }
namespace Rows
def none {H : Type} : Left H := { results := [], args := [] }

/-- 'postroadlaw14.AccessFar': WHATEVER THE INPUT: true; the input reads as it did. -/
def accessFarSpec : ChangeSpec := { name := "accessFar", fn := fun _ => fun
  | [d1, d2, d3, d4, d5] => { results := [.lit (.bool true)], args := [d1, d2, d3, d4, d5] }
  | _ => none }
def accessFarRow : OpenClaim := { program := "ytfkejflmhidnaaagreat", sum := "d346ed45bca9cf4b63d5416f7a094fe9cba598854418dededafb62c3c12a3416", func := "postroad/postroadlaw14.AccessFar", spec := "accessFar", unfollowed := true, recurses := true, plainKeys := false, apart := false }
def AccessFarSaid : Prop := accessFarRow.holds Tryz.pinned (OpenSpec.ofChange accessFarSpec)

/-- ITS FALSE NEIGHBOUR: 'it returns false'. Refute it at one input. -/
def accessFarWrong : ChangeSpec := { name := "accessFar", fn := fun _ => fun
  | [d1, d2, d3, d4, d5] => { results := [.lit (.bool false)], args := [d1, d2, d3, d4, d5] }
  | _ => none }
def AccessFarWrongFalsely : Prop := accessFarRow.holds Tryz.pinned (OpenSpec.ofChange accessFarWrong)

/-- 'postroadlaw15.TablesAll': WHATEVER THE INPUT: true; the input reads as it did. -/
def tablesAllSpec : ChangeSpec := { name := "tablesAll", fn := fun _ => fun
  | [d1, d2] => { results := [.lit (.bool true)], args := [d1, d2] }
  | _ => none }
def tablesAllRow : OpenClaim := { program := "ytfkejflmhidnaaagreat", sum := "d346ed45bca9cf4b63d5416f7a094fe9cba598854418dededafb62c3c12a3416", func := "postroad/postroadlaw15.TablesAll", spec := "tablesAll", unfollowed := true, recurses := true, plainKeys := false, apart := false }
def TablesAllSaid : Prop := tablesAllRow.holds Tryz.pinned (OpenSpec.ofChange tablesAllSpec)

/-- ITS FALSE NEIGHBOUR: 'it returns false'. Refute it at one input. -/
def tablesAllWrong : ChangeSpec := { name := "tablesAll", fn := fun _ => fun
  | [d1, d2] => { results := [.lit (.bool false)], args := [d1, d2] }
  | _ => none }
def TablesAllWrongFalsely : Prop := tablesAllRow.holds Tryz.pinned (OpenSpec.ofChange tablesAllWrong)

/-- 'postroadlaw15.TablesOdd': WHATEVER THE INPUT: true; the input reads as it did. -/
def tablesOddSpec : ChangeSpec := { name := "tablesOdd", fn := fun _ => fun
  | [d1, d2, d3, d4] => { results := [.lit (.bool true)], args := [d1, d2, d3, d4] }
  | _ => none }
def tablesOddRow : OpenClaim := { program := "ytfkejflmhidnaaagreat", sum := "d346ed45bca9cf4b63d5416f7a094fe9cba598854418dededafb62c3c12a3416", func := "postroad/postroadlaw15.TablesOdd", spec := "tablesOdd", unfollowed := true, recurses := true, plainKeys := false, apart := false }
def TablesOddSaid : Prop := tablesOddRow.holds Tryz.pinned (OpenSpec.ofChange tablesOddSpec)

/-- ITS FALSE NEIGHBOUR: 'it returns false'. Refute it at one input. -/
def tablesOddWrong : ChangeSpec := { name := "tablesOdd", fn := fun _ => fun
  | [d1, d2, d3, d4] => { results := [.lit (.bool false)], args := [d1, d2, d3, d4] }
  | _ => none }
def TablesOddWrongFalsely : Prop := tablesOddRow.holds Tryz.pinned (OpenSpec.ofChange tablesOddWrong)

/-- 'postroadlaw15.TablesBuild': WHATEVER THE INPUT: true; the input reads as it did. -/
def tablesBuildSpec : ChangeSpec := { name := "tablesBuild", fn := fun _ => fun
  | [d1, d2] => { results := [.lit (.bool true)], args := [d1, d2] }
  | _ => none }
def tablesBuildRow : OpenClaim := { program := "ytfkejflmhidnaaagreat", sum := "d346ed45bca9cf4b63d5416f7a094fe9cba598854418dededafb62c3c12a3416", func := "postroad/postroadlaw15.TablesBuild", spec := "tablesBuild", unfollowed := true, recurses := true, plainKeys := false, apart := false }
def TablesBuildSaid : Prop := tablesBuildRow.holds Tryz.pinned (OpenSpec.ofChange tablesBuildSpec)

/-- ITS FALSE NEIGHBOUR: 'it returns false'. Refute it at one input. -/
def tablesBuildWrong : ChangeSpec := { name := "tablesBuild", fn := fun _ => fun
  | [d1, d2] => { results := [.lit (.bool false)], args := [d1, d2] }
  | _ => none }
def TablesBuildWrongFalsely : Prop := tablesBuildRow.holds Tryz.pinned (OpenSpec.ofChange tablesBuildWrong)

/-- 'postroadlaw15.TablesSame': WHATEVER THE INPUT: true; the input reads as it did. -/
def tablesSameSpec : ChangeSpec := { name := "tablesSame", fn := fun _ => fun
  | [d1, d2] => { results := [.lit (.bool true)], args := [d1, d2] }
  | _ => none }
def tablesSameRow : OpenClaim := { program := "ytfkejflmhidnaaagreat", sum := "d346ed45bca9cf4b63d5416f7a094fe9cba598854418dededafb62c3c12a3416", func := "postroad/postroadlaw15.TablesSame", spec := "tablesSame", unfollowed := true, recurses := true, plainKeys := false, apart := false }
def TablesSameSaid : Prop := tablesSameRow.holds Tryz.pinned (OpenSpec.ofChange tablesSameSpec)

/-- ITS FALSE NEIGHBOUR: 'it returns false'. Refute it at one input. -/
def tablesSameWrong : ChangeSpec := { name := "tablesSame", fn := fun _ => fun
  | [d1, d2] => { results := [.lit (.bool false)], args := [d1, d2] }
  | _ => none }
def TablesSameWrongFalsely : Prop := tablesSameRow.holds Tryz.pinned (OpenSpec.ofChange tablesSameWrong)

/-- 'postroadlaw15.TablesFar': WHATEVER THE INPUT: true; the input reads as it did. -/
def tablesFarSpec : ChangeSpec := { name := "tablesFar", fn := fun _ => fun
  | [d1, d2, d3, d4] => { results := [.lit (.bool true)], args := [d1, d2, d3, d4] }
  | _ => none }
def tablesFarRow : OpenClaim := { program := "ytfkejflmhidnaaagreat", sum := "d346ed45bca9cf4b63d5416f7a094fe9cba598854418dededafb62c3c12a3416", func := "postroad/postroadlaw15.TablesFar", spec := "tablesFar", unfollowed := true, recurses := true, plainKeys := false, apart := false }
def TablesFarSaid : Prop := tablesFarRow.holds Tryz.pinned (OpenSpec.ofChange tablesFarSpec)

/-- ITS FALSE NEIGHBOUR: 'it returns false'. Refute it at one input. -/
def tablesFarWrong : ChangeSpec := { name := "tablesFar", fn := fun _ => fun
  | [d1, d2, d3, d4] => { results := [.lit (.bool false)], args := [d1, d2, d3, d4] }
  | _ => none }
def TablesFarWrongFalsely : Prop := tablesFarRow.holds Tryz.pinned (OpenSpec.ofChange tablesFarWrong)

/-- 'postroadlaw15.TablesLess': WHATEVER THE INPUT: true; the input reads as it did. -/
def tablesLessSpec : ChangeSpec := { name := "tablesLess", fn := fun _ => fun
  | [d1, d2, d3] => { results := [.lit (.bool true)], args := [d1, d2, d3] }
  | _ => none }
def tablesLessRow : OpenClaim := { program := "ytfkejflmhidnaaagreat", sum := "d346ed45bca9cf4b63d5416f7a094fe9cba598854418dededafb62c3c12a3416", func := "postroad/postroadlaw15.TablesLess", spec := "tablesLess", unfollowed := true, recurses := true, plainKeys := false, apart := false }
def TablesLessSaid : Prop := tablesLessRow.holds Tryz.pinned (OpenSpec.ofChange tablesLessSpec)

/-- ITS FALSE NEIGHBOUR: 'it returns false'. Refute it at one input. -/
def tablesLessWrong : ChangeSpec := { name := "tablesLess", fn := fun _ => fun
  | [d1, d2, d3] => { results := [.lit (.bool false)], args := [d1, d2, d3] }
  | _ => none }
def TablesLessWrongFalsely : Prop := tablesLessRow.holds Tryz.pinned (OpenSpec.ofChange tablesLessWrong)

/-- 'postroadlaw15.TablesSelf': WHATEVER THE INPUT: true; the input reads as it did. -/
def tablesSelfSpec : ChangeSpec := { name := "tablesSelf", fn := fun _ => fun
  | [d1, d2, d3] => { results := [.lit (.bool true)], args := [d1, d2, d3] }
  | _ => none }
def tablesSelfRow : OpenClaim := { program := "ytfkejflmhidnaaagreat", sum := "d346ed45bca9cf4b63d5416f7a094fe9cba598854418dededafb62c3c12a3416", func := "postroad/postroadlaw15.TablesSelf", spec := "tablesSelf", unfollowed := true, recurses := true, plainKeys := false, apart := false }
def TablesSelfSaid : Prop := tablesSelfRow.holds Tryz.pinned (OpenSpec.ofChange tablesSelfSpec)

/-- ITS FALSE NEIGHBOUR: 'it returns false'. Refute it at one input. -/
def tablesSelfWrong : ChangeSpec := { name := "tablesSelf", fn := fun _ => fun
  | [d1, d2, d3] => { results := [.lit (.bool false)], args := [d1, d2, d3] }
  | _ => none }
def TablesSelfWrongFalsely : Prop := tablesSelfRow.holds Tryz.pinned (OpenSpec.ofChange tablesSelfWrong)

/- THE SECOND FORM. 'bulk': how many values and letters a reading holds, each counted each time it is reached (what is shared counts as often as it is met; a slice's spare places count too). A statement '..UptoSaid' is the law's where the arguments, and the package variables that the reading takes, are together of bulk at most 1048576: NARROWER than '..Said'. Prove '..Said' where nothing that the law and all that it calls make is longer than what came in: it says more and counts as full. Else prove '..UptoSaid'. A law counts once. -/
mutual
def uptoBulk {H : Type} : DataW H → Nat
  | .lit (.string bytes) => bytes.length + 1
  | .lit _ => 1
  | .nil => 1
  | .ptr d => uptoBulk d + 1
  | .slice elems spare => uptoBulkAll elems + uptoBulkAll spare + 1
  | .agg parts => uptoBulkAll parts + 1
  | .iface _ d => uptoBulk d + 1
  | .map entries => uptoBulkEntries entries + 1
  | .held _ => 1
def uptoBulkAll {H : Type} : List (DataW H) → Nat
  | [] => 0
  | d :: r => uptoBulk d + uptoBulkAll r
def uptoBulkEntries {H : Type} : List (Lit × DataW H) → Nat
  | [] => 0
  | x :: r => uptoBulkEntry x + uptoBulkEntries r
def uptoBulkEntry {H : Type} : Lit × DataW H → Nat
  | (.string bytes, d) => bytes.length + uptoBulk d + 1
  | (_, d) => uptoBulk d + 1
 end
def uptoSmall : (H : Type) → List (DataW H) → Bool := fun _ ds => decide (uptoBulkAll ds ≤ 1048576)
def OpenSpec.upto (s : _root_.Go.ChangeSpec) : _root_.Go.OpenSpec := { _root_.Go.OpenSpec.ofChange s with cond := some uptoSmall }

/-- 'postroadlaw14.AccessFar', WHERE WHAT IT READS IS OF BULK AT MOST 1048576: true; the input reads as it did. -/
def accessFarUptoRow : OpenClaim := { program := "ytfkejflmhidnaaagreat", sum := "d346ed45bca9cf4b63d5416f7a094fe9cba598854418dededafb62c3c12a3416", func := "postroad/postroadlaw14.AccessFar", spec := "accessFar", unfollowed := true, recurses := true, plainKeys := false, apart := false, narrowed := true }
def AccessFarUptoSaid : Prop := accessFarUptoRow.holds Tryz.pinned (OpenSpec.upto accessFarSpec)

/-- 'postroadlaw15.TablesAll', WHERE WHAT IT READS IS OF BULK AT MOST 1048576: true; the input reads as it did. -/
def tablesAllUptoRow : OpenClaim := { program := "ytfkejflmhidnaaagreat", sum := "d346ed45bca9cf4b63d5416f7a094fe9cba598854418dededafb62c3c12a3416", func := "postroad/postroadlaw15.TablesAll", spec := "tablesAll", unfollowed := true, recurses := true, plainKeys := false, apart := false, narrowed := true }
def TablesAllUptoSaid : Prop := tablesAllUptoRow.holds Tryz.pinned (OpenSpec.upto tablesAllSpec)

/-- 'postroadlaw15.TablesOdd', WHERE WHAT IT READS IS OF BULK AT MOST 1048576: true; the input reads as it did. -/
def tablesOddUptoRow : OpenClaim := { program := "ytfkejflmhidnaaagreat", sum := "d346ed45bca9cf4b63d5416f7a094fe9cba598854418dededafb62c3c12a3416", func := "postroad/postroadlaw15.TablesOdd", spec := "tablesOdd", unfollowed := true, recurses := true, plainKeys := false, apart := false, narrowed := true }
def TablesOddUptoSaid : Prop := tablesOddUptoRow.holds Tryz.pinned (OpenSpec.upto tablesOddSpec)

/-- 'postroadlaw15.TablesBuild', WHERE WHAT IT READS IS OF BULK AT MOST 1048576: true; the input reads as it did. -/
def tablesBuildUptoRow : OpenClaim := { program := "ytfkejflmhidnaaagreat", sum := "d346ed45bca9cf4b63d5416f7a094fe9cba598854418dededafb62c3c12a3416", func := "postroad/postroadlaw15.TablesBuild", spec := "tablesBuild", unfollowed := true, recurses := true, plainKeys := false, apart := false, narrowed := true }
def TablesBuildUptoSaid : Prop := tablesBuildUptoRow.holds Tryz.pinned (OpenSpec.upto tablesBuildSpec)

/-- 'postroadlaw15.TablesSame', WHERE WHAT IT READS IS OF BULK AT MOST 1048576: true; the input reads as it did. -/
def tablesSameUptoRow : OpenClaim := { program := "ytfkejflmhidnaaagreat", sum := "d346ed45bca9cf4b63d5416f7a094fe9cba598854418dededafb62c3c12a3416", func := "postroad/postroadlaw15.TablesSame", spec := "tablesSame", unfollowed := true, recurses := true, plainKeys := false, apart := false, narrowed := true }
def TablesSameUptoSaid : Prop := tablesSameUptoRow.holds Tryz.pinned (OpenSpec.upto tablesSameSpec)

/-- 'postroadlaw15.TablesFar', WHERE WHAT IT READS IS OF BULK AT MOST 1048576: true; the input reads as it did. -/
def tablesFarUptoRow : OpenClaim := { program := "ytfkejflmhidnaaagreat", sum := "d346ed45bca9cf4b63d5416f7a094fe9cba598854418dededafb62c3c12a3416", func := "postroad/postroadlaw15.TablesFar", spec := "tablesFar", unfollowed := true, recurses := true, plainKeys := false, apart := false, narrowed := true }
def TablesFarUptoSaid : Prop := tablesFarUptoRow.holds Tryz.pinned (OpenSpec.upto tablesFarSpec)

/-- 'postroadlaw15.TablesLess', WHERE WHAT IT READS IS OF BULK AT MOST 1048576: true; the input reads as it did. -/
def tablesLessUptoRow : OpenClaim := { program := "ytfkejflmhidnaaagreat", sum := "d346ed45bca9cf4b63d5416f7a094fe9cba598854418dededafb62c3c12a3416", func := "postroad/postroadlaw15.TablesLess", spec := "tablesLess", unfollowed := true, recurses := true, plainKeys := false, apart := false, narrowed := true }
def TablesLessUptoSaid : Prop := tablesLessUptoRow.holds Tryz.pinned (OpenSpec.upto tablesLessSpec)

/-- 'postroadlaw15.TablesSelf', WHERE WHAT IT READS IS OF BULK AT MOST 1048576: true; the input reads as it did. -/
def tablesSelfUptoRow : OpenClaim := { program := "ytfkejflmhidnaaagreat", sum := "d346ed45bca9cf4b63d5416f7a094fe9cba598854418dededafb62c3c12a3416", func := "postroad/postroadlaw15.TablesSelf", spec := "tablesSelf", unfollowed := true, recurses := true, plainKeys := false, apart := false, narrowed := true }
def TablesSelfUptoSaid : Prop := tablesSelfUptoRow.holds Tryz.pinned (OpenSpec.upto tablesSelfSpec)

end Rows
end Go.Proofs.YtfkejflmhidnaaaGreat
