/-
  DERIVED. GIVEN WITH THE SEED: THE CARDS: each row of YtbnpcnpdeinacaaDoorRows.lean that lists a variable, with what it lists TIED to the program's text (the seventh form; the later family's looks); each row that meets fmt, with fmt's text TOLD by the authors' own Lean function (tested against real Go, not proved from fmt's source: count such statements apart). THE CARD IS WHAT COUNTS. Prove the row's statement (the work); the ties are given (YtbnpcnpdeinacaaDoorTie.lean); close each card by the builder's one call (the guide's Derived/Test/ToyasCard.lean, 'card_holds'). Laid BY PROGRAM, IN A SANDBOX (cutbox-door.mjs). By AI agents, Wed Nov 11 2026. No macro, syntax, notation, axiom, sorry.
-/
import Derived.Test.YtbnpcnpdeinacaaDoorRows
import GoSem.ClaimSeven
namespace Go.Proofs.YtbnpcnpdeinacaaDoor
namespace Rows

/-- THE TIED CARD OF 'backseatlaw03.KeysCuts'. -/
def keysCutsCard : Claim7 := { stood := { row := keysCutsRow, standIns := [], harness := (true, "873d09dcc10a76fc50fcb508cd4677f9400aebdd8a67cb503aeaaab388df25d5"), looks := false }, kinds := [], alts := [], laidByText := true, laidKinds := [.data, .pinned], laidTests := true, laidLooks := .later }
def KeysCutsCardSaid : Prop := Claim7.holds Tryd.pinned (.plain (OpenSpec.ofChange keysCutsSpec)) keysCutsCard

/-- THE TIED CARD OF 'backseatlaw03.KeysTake'. -/
def keysTakeCard : Claim7 := { stood := { row := keysTakeRow, standIns := [], harness := (true, "873d09dcc10a76fc50fcb508cd4677f9400aebdd8a67cb503aeaaab388df25d5"), looks := false }, kinds := [], alts := [], laidByText := true, laidKinds := [.data, .pinned], laidTests := true, laidLooks := .later }
def KeysTakeCardSaid : Prop := Claim7.holds Tryd.pinned (.plain (OpenSpec.ofChange keysTakeSpec)) keysTakeCard

/-- THE TIED CARD OF 'backseatlaw03.KeysBack'. -/
def keysBackCard : Claim7 := { stood := { row := keysBackRow, standIns := [], harness := (true, "873d09dcc10a76fc50fcb508cd4677f9400aebdd8a67cb503aeaaab388df25d5"), looks := false }, kinds := [], alts := [], laidByText := true, laidKinds := [.data, .pinned], laidTests := true, laidLooks := .later }
def KeysBackCardSaid : Prop := Claim7.holds Tryd.pinned (.plain (OpenSpec.ofChange keysBackSpec)) keysBackCard

/-- THE SECOND FORM's CARD OF 'backseatlaw03.KeysCuts'. -/
def keysCutsUptoCard : Claim7 := { stood := { row := keysCutsUptoRow, standIns := [], harness := (true, "873d09dcc10a76fc50fcb508cd4677f9400aebdd8a67cb503aeaaab388df25d5"), looks := false }, kinds := [], alts := [], laidByText := true, laidKinds := [.data, .pinned], laidTests := true, laidLooks := .later }
def KeysCutsUptoCardSaid : Prop := Claim7.holds Tryd.pinned (.plain (OpenSpec.upto keysCutsSpec)) keysCutsUptoCard

/-- THE SECOND FORM's CARD OF 'backseatlaw03.KeysTake'. -/
def keysTakeUptoCard : Claim7 := { stood := { row := keysTakeUptoRow, standIns := [], harness := (true, "873d09dcc10a76fc50fcb508cd4677f9400aebdd8a67cb503aeaaab388df25d5"), looks := false }, kinds := [], alts := [], laidByText := true, laidKinds := [.data, .pinned], laidTests := true, laidLooks := .later }
def KeysTakeUptoCardSaid : Prop := Claim7.holds Tryd.pinned (.plain (OpenSpec.upto keysTakeSpec)) keysTakeUptoCard

/-- THE SECOND FORM's CARD OF 'backseatlaw03.KeysBack'. -/
def keysBackUptoCard : Claim7 := { stood := { row := keysBackUptoRow, standIns := [], harness := (true, "873d09dcc10a76fc50fcb508cd4677f9400aebdd8a67cb503aeaaab388df25d5"), looks := false }, kinds := [], alts := [], laidByText := true, laidKinds := [.data, .pinned], laidTests := true, laidLooks := .later }
def KeysBackUptoCardSaid : Prop := Claim7.holds Tryd.pinned (.plain (OpenSpec.upto keysBackSpec)) keysBackUptoCard
end Rows
end Go.Proofs.YtbnpcnpdeinacaaDoor
