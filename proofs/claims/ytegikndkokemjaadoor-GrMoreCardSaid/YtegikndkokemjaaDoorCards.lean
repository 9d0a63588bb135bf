/-
  DERIVED. GIVEN WITH THE SEED: THE CARDS: each row of YtegikndkokemjaaDoorRows.lean that lists a variable, with what it lists TIED to the program's text (the seventh form; the later family's looks); each row that meets fmt, with fmt's text TOLD by the authors' own Lean function (tested against real Go, not proved from fmt's source: count such statements apart). THE CARD IS WHAT COUNTS. Prove the row's statement (the work); the ties are given (YtegikndkokemjaaDoorTie.lean); close each card by the builder's one call (the guide's Derived/Test/ToyasCard.lean, 'card_holds'). Laid BY PROGRAM, IN A SANDBOX (cutbox-door.mjs). By AI agents, Wed Nov 11 2026. No macro, syntax, notation, axiom, sorry.
-/
import Derived.Test.YtegikndkokemjaaDoorRows
import GoSem.ClaimSeven
namespace Go.Proofs.YtegikndkokemjaaDoor
namespace Rows

/-- THE TIED CARD OF 'postroadlaw05.GrParses'. -/
def grParsesCard : Claim7 := { stood := { row := grParsesRow, standIns := [], harness := (true, "2a9647dc073dd32bcb1772d617b4a4d0e9ba694b2d4bab78922877584e68c996"), looks := true }, kinds := [], alts := [], laidByText := true, laidKinds := [.data, .data, .data, .data, .sentinel, .sentinel, .pinned], laidTests := true, laidLooks := .later }
def GrParsesCardSaid : Prop := Claim7.holds Tryd.pinned (.plain (OpenSpec.ofChange grParsesSpec)) grParsesCard

/-- THE TIED CARD OF 'postroadlaw05.GrSame'. -/
def grSameCard : Claim7 := { stood := { row := grSameRow, standIns := [], harness := (true, "2a9647dc073dd32bcb1772d617b4a4d0e9ba694b2d4bab78922877584e68c996"), looks := true }, kinds := [], alts := [], laidByText := true, laidKinds := [.data, .data, .data, .data, .sentinel, .sentinel, .pinned], laidTests := true, laidLooks := .later }
def GrSameCardSaid : Prop := Claim7.holds Tryd.pinned (.plain (OpenSpec.ofChange grSameSpec)) grSameCard

/-- THE TIED CARD OF 'postroadlaw05.GrNumbers'. -/
def grNumbersCard : Claim7 := { stood := { row := grNumbersRow, standIns := [], harness := (true, "2a9647dc073dd32bcb1772d617b4a4d0e9ba694b2d4bab78922877584e68c996"), looks := true }, kinds := [], alts := [], laidByText := true, laidKinds := [.data, .data, .data, .data, .sentinel, .sentinel, .pinned], laidTests := true, laidLooks := .later }
def GrNumbersCardSaid : Prop := Claim7.holds Tryd.pinned (.plain (OpenSpec.ofChange grNumbersSpec)) grNumbersCard

/-- THE TIED CARD OF 'postroadlaw05.GrSafe'. -/
def grSafeCard : Claim7 := { stood := { row := grSafeRow, standIns := [], harness := (true, "2a9647dc073dd32bcb1772d617b4a4d0e9ba694b2d4bab78922877584e68c996"), looks := true }, kinds := [], alts := [], laidByText := true, laidKinds := [.data, .data, .data, .data, .sentinel, .sentinel, .pinned], laidTests := true, laidLooks := .later }
def GrSafeCardSaid : Prop := Claim7.holds Tryd.pinned (.plain (OpenSpec.ofChange grSafeSpec)) grSafeCard

/-- THE TIED CARD OF 'postroadlaw05.GrPrints'. -/
def grPrintsCard : Claim7 := { stood := { row := grPrintsRow, standIns := [], harness := (true, "2a9647dc073dd32bcb1772d617b4a4d0e9ba694b2d4bab78922877584e68c996"), looks := true }, kinds := [], alts := [], laidByText := true, laidKinds := [.data, .data, .data, .data, .sentinel, .sentinel, .pinned], laidTests := true, laidLooks := .later }
def GrPrintsCardSaid : Prop := Claim7.holds Tryd.pinned (.plain (OpenSpec.ofChange grPrintsSpec)) grPrintsCard

/-- THE TIED CARD OF 'postroadlaw05.GrBack'. -/
def grBackCard : Claim7 := { stood := { row := grBackRow, standIns := [], harness := (true, "2a9647dc073dd32bcb1772d617b4a4d0e9ba694b2d4bab78922877584e68c996"), looks := true }, kinds := [], alts := [], laidByText := true, laidKinds := [.data, .data, .data, .data, .sentinel, .sentinel, .pinned], laidTests := true, laidLooks := .later }
def GrBackCardSaid : Prop := Claim7.holds Tryd.pinned (.plain (OpenSpec.ofChange grBackSpec)) grBackCard

/-- THE TIED CARD OF 'postroadlaw05.GrMore'. -/
def grMoreCard : Claim7 := { stood := { row := grMoreRow, standIns := [], harness := (true, "2a9647dc073dd32bcb1772d617b4a4d0e9ba694b2d4bab78922877584e68c996"), looks := true }, kinds := [], alts := [], laidByText := true, laidKinds := [.data, .data, .data, .data, .sentinel, .sentinel, .pinned], laidTests := true, laidLooks := .later }
def GrMoreCardSaid : Prop := Claim7.holds Tryd.pinned (.plain (OpenSpec.ofChange grMoreSpec)) grMoreCard

/-- THE SECOND FORM's CARD OF 'postroadlaw05.GrParses'. -/
def grParsesUptoCard : Claim7 := { stood := { row := grParsesUptoRow, standIns := [], harness := (true, "2a9647dc073dd32bcb1772d617b4a4d0e9ba694b2d4bab78922877584e68c996"), looks := true }, kinds := [], alts := [], laidByText := true, laidKinds := [.data, .data, .data, .data, .sentinel, .sentinel, .pinned], laidTests := true, laidLooks := .later }
def GrParsesUptoCardSaid : Prop := Claim7.holds Tryd.pinned (.plain (OpenSpec.upto grParsesSpec)) grParsesUptoCard

/-- THE SECOND FORM's CARD OF 'postroadlaw05.GrSame'. -/
def grSameUptoCard : Claim7 := { stood := { row := grSameUptoRow, standIns := [], harness := (true, "2a9647dc073dd32bcb1772d617b4a4d0e9ba694b2d4bab78922877584e68c996"), looks := true }, kinds := [], alts := [], laidByText := true, laidKinds := [.data, .data, .data, .data, .sentinel, .sentinel, .pinned], laidTests := true, laidLooks := .later }
def GrSameUptoCardSaid : Prop := Claim7.holds Tryd.pinned (.plain (OpenSpec.upto grSameSpec)) grSameUptoCard

/-- THE SECOND FORM's CARD OF 'postroadlaw05.GrNumbers'. -/
def grNumbersUptoCard : Claim7 := { stood := { row := grNumbersUptoRow, standIns := [], harness := (true, "2a9647dc073dd32bcb1772d617b4a4d0e9ba694b2d4bab78922877584e68c996"), looks := true }, kinds := [], alts := [], laidByText := true, laidKinds := [.data, .data, .data, .data, .sentinel, .sentinel, .pinned], laidTests := true, laidLooks := .later }
def GrNumbersUptoCardSaid : Prop := Claim7.holds Tryd.pinned (.plain (OpenSpec.upto grNumbersSpec)) grNumbersUptoCard

/-- THE SECOND FORM's CARD OF 'postroadlaw05.GrSafe'. -/
def grSafeUptoCard : Claim7 := { stood := { row := grSafeUptoRow, standIns := [], harness := (true, "2a9647dc073dd32bcb1772d617b4a4d0e9ba694b2d4bab78922877584e68c996"), looks := true }, kinds := [], alts := [], laidByText := true, laidKinds := [.data, .data, .data, .data, .sentinel, .sentinel, .pinned], laidTests := true, laidLooks := .later }
def GrSafeUptoCardSaid : Prop := Claim7.holds Tryd.pinned (.plain (OpenSpec.upto grSafeSpec)) grSafeUptoCard

/-- THE SECOND FORM's CARD OF 'postroadlaw05.GrPrints'. -/
def grPrintsUptoCard : Claim7 := { stood := { row := grPrintsUptoRow, standIns := [], harness := (true, "2a9647dc073dd32bcb1772d617b4a4d0e9ba694b2d4bab78922877584e68c996"), looks := true }, kinds := [], alts := [], laidByText := true, laidKinds := [.data, .data, .data, .data, .sentinel, .sentinel, .pinned], laidTests := true, laidLooks := .later }
def GrPrintsUptoCardSaid : Prop := Claim7.holds Tryd.pinned (.plain (OpenSpec.upto grPrintsSpec)) grPrintsUptoCard

/-- THE SECOND FORM's CARD OF 'postroadlaw05.GrBack'. -/
def grBackUptoCard : Claim7 := { stood := { row := grBackUptoRow, standIns := [], harness := (true, "2a9647dc073dd32bcb1772d617b4a4d0e9ba694b2d4bab78922877584e68c996"), looks := true }, kinds := [], alts := [], laidByText := true, laidKinds := [.data, .data, .data, .data, .sentinel, .sentinel, .pinned], laidTests := true, laidLooks := .later }
def GrBackUptoCardSaid : Prop := Claim7.holds Tryd.pinned (.plain (OpenSpec.upto grBackSpec)) grBackUptoCard

/-- THE SECOND FORM's CARD OF 'postroadlaw05.GrMore'. -/
def grMoreUptoCard : Claim7 := { stood := { row := grMoreUptoRow, standIns := [], harness := (true, "2a9647dc073dd32bcb1772d617b4a4d0e9ba694b2d4bab78922877584e68c996"), looks := true }, kinds := [], alts := [], laidByText := true, laidKinds := [.data, .data, .data, .data, .sentinel, .sentinel, .pinned], laidTests := true, laidLooks := .later }
def GrMoreUptoCardSaid : Prop := Claim7.holds Tryd.pinned (.plain (OpenSpec.upto grMoreSpec)) grMoreUptoCard
end Rows
end Go.Proofs.YtegikndkokemjaaDoor
