/-
  DERIVED. GIVEN WITH THE SEED: THE CARDS: each row of YthipdgnbpdngpaaDoorRows.lean that lists a variable, with what it lists TIED to the program's text (the seventh form; the later family's looks); each row that meets fmt, with fmt's text TOLD by the authors' own Lean function (tested against real Go, not proved from fmt's source: count such statements apart). THE CARD IS WHAT COUNTS. Prove the row's statement (the work); the ties are given (YthipdgnbpdngpaaDoorTie.lean); close each card by the builder's one call (the guide's Derived/Test/ToyasCard.lean, 'card_holds'). Laid BY PROGRAM, IN A SANDBOX (cutbox-door.mjs). By AI agents, Wed Nov 11 2026. No macro, syntax, notation, axiom, sorry.
-/
import Derived.Test.YthipdgnbpdngpaaDoorRows
import GoSem.ClaimSeven
namespace Go.Proofs.YthipdgnbpdngpaaDoor
namespace Rows

/-- THE TIED CARD OF 'backseatlaw01.UtfReads'. -/
def utfReadsCard : Claim7 := { stood := { row := utfReadsRow, standIns := [], harness := (true, "4c70d1c330509b29c066ec5f802dca863fb53597eb0d91adfccfafa2c14f0452"), looks := false }, kinds := [], alts := [], laidByText := true, laidKinds := [.data, .pinned], laidTests := true, laidLooks := .later }
def UtfReadsCardSaid : Prop := Claim7.holds Tryd.pinned (.plain (OpenSpec.ofChange utfReadsSpec)) utfReadsCard

/-- THE TIED CARD OF 'backseatlaw01.UtfBack'. -/
def utfBackCard : Claim7 := { stood := { row := utfBackRow, standIns := [], harness := (true, "4c70d1c330509b29c066ec5f802dca863fb53597eb0d91adfccfafa2c14f0452"), looks := false }, kinds := [], alts := [], laidByText := true, laidKinds := [.data, .pinned], laidTests := true, laidLooks := .later }
def UtfBackCardSaid : Prop := Claim7.holds Tryd.pinned (.plain (OpenSpec.ofChange utfBackSpec)) utfBackCard

/-- THE TIED CARD OF 'backseatlaw01.UtfGoes'. -/
def utfGoesCard : Claim7 := { stood := { row := utfGoesRow, standIns := [], harness := (true, "4c70d1c330509b29c066ec5f802dca863fb53597eb0d91adfccfafa2c14f0452"), looks := false }, kinds := [], alts := [], laidByText := true, laidKinds := [.data, .pinned], laidTests := true, laidLooks := .later }
def UtfGoesCardSaid : Prop := Claim7.holds Tryd.pinned (.plain (OpenSpec.ofChange utfGoesSpec)) utfGoesCard

/-- THE TIED CARD OF 'backseatlaw01.UtfWrites'. -/
def utfWritesCard : Claim7 := { stood := { row := utfWritesRow, standIns := [], harness := (true, "4c70d1c330509b29c066ec5f802dca863fb53597eb0d91adfccfafa2c14f0452"), looks := false }, kinds := [], alts := [], laidByText := true, laidKinds := [.data, .pinned], laidTests := true, laidLooks := .later }
def UtfWritesCardSaid : Prop := Claim7.holds Tryd.pinned (.plain (OpenSpec.ofChange utfWritesSpec)) utfWritesCard

/-- THE TIED CARD OF 'backseatlaw04.CellMakes'. -/
def cellMakesCard : Claim7 := { stood := { row := cellMakesRow, standIns := [], harness := (true, "4c70d1c330509b29c066ec5f802dca863fb53597eb0d91adfccfafa2c14f0452"), looks := false }, kinds := [], alts := [], laidByText := true, laidKinds := [.data, .pinned], laidTests := true, laidLooks := .later }
def CellMakesCardSaid : Prop := Claim7.holds Tryd.pinned (.plain (OpenSpec.ofChange cellMakesSpec)) cellMakesCard

/-- THE TIED CARD OF 'backseatlaw04.CellMarks'. -/
def cellMarksCard : Claim7 := { stood := { row := cellMarksRow, standIns := [], harness := (true, "4c70d1c330509b29c066ec5f802dca863fb53597eb0d91adfccfafa2c14f0452"), looks := false }, kinds := [], alts := [], laidByText := true, laidKinds := [.data, .pinned], laidTests := true, laidLooks := .later }
def CellMarksCardSaid : Prop := Claim7.holds Tryd.pinned (.plain (OpenSpec.ofChange cellMarksSpec)) cellMarksCard

/-- THE TIED CARD OF 'backseatlaw05.ParseCuts'. -/
def parseCutsCard : Claim7 := { stood := { row := parseCutsRow, standIns := [], harness := (true, "4c70d1c330509b29c066ec5f802dca863fb53597eb0d91adfccfafa2c14f0452"), looks := false }, kinds := [], alts := [], laidByText := true, laidKinds := [.data, .pinned], laidTests := true, laidLooks := .later }
def ParseCutsCardSaid : Prop := Claim7.holds Tryd.pinned (.plain (OpenSpec.ofChange parseCutsSpec)) parseCutsCard

/-- THE TIED CARD OF 'backseatlaw05.ParseEnds'. -/
def parseEndsCard : Claim7 := { stood := { row := parseEndsRow, standIns := [], harness := (true, "4c70d1c330509b29c066ec5f802dca863fb53597eb0d91adfccfafa2c14f0452"), looks := false }, kinds := [], alts := [], laidByText := true, laidKinds := [.data, .pinned], laidTests := true, laidLooks := .later }
def ParseEndsCardSaid : Prop := Claim7.holds Tryd.pinned (.plain (OpenSpec.ofChange parseEndsSpec)) parseEndsCard

/-- THE TIED CARD OF 'backseatlaw05.ParseLetters'. -/
def parseLettersCard : Claim7 := { stood := { row := parseLettersRow, standIns := [], harness := (true, "4c70d1c330509b29c066ec5f802dca863fb53597eb0d91adfccfafa2c14f0452"), looks := false }, kinds := [], alts := [], laidByText := true, laidKinds := [.data, .pinned], laidTests := true, laidLooks := .later }
def ParseLettersCardSaid : Prop := Claim7.holds Tryd.pinned (.plain (OpenSpec.ofChange parseLettersSpec)) parseLettersCard

/-- THE SECOND FORM's CARD OF 'backseatlaw01.UtfReads'. -/
def utfReadsUptoCard : Claim7 := { stood := { row := utfReadsUptoRow, standIns := [], harness := (true, "4c70d1c330509b29c066ec5f802dca863fb53597eb0d91adfccfafa2c14f0452"), looks := false }, kinds := [], alts := [], laidByText := true, laidKinds := [.data, .pinned], laidTests := true, laidLooks := .later }
def UtfReadsUptoCardSaid : Prop := Claim7.holds Tryd.pinned (.plain (OpenSpec.upto utfReadsSpec)) utfReadsUptoCard

/-- THE SECOND FORM's CARD OF 'backseatlaw01.UtfBack'. -/
def utfBackUptoCard : Claim7 := { stood := { row := utfBackUptoRow, standIns := [], harness := (true, "4c70d1c330509b29c066ec5f802dca863fb53597eb0d91adfccfafa2c14f0452"), looks := false }, kinds := [], alts := [], laidByText := true, laidKinds := [.data, .pinned], laidTests := true, laidLooks := .later }
def UtfBackUptoCardSaid : Prop := Claim7.holds Tryd.pinned (.plain (OpenSpec.upto utfBackSpec)) utfBackUptoCard

/-- THE SECOND FORM's CARD OF 'backseatlaw01.UtfGoes'. -/
def utfGoesUptoCard : Claim7 := { stood := { row := utfGoesUptoRow, standIns := [], harness := (true, "4c70d1c330509b29c066ec5f802dca863fb53597eb0d91adfccfafa2c14f0452"), looks := false }, kinds := [], alts := [], laidByText := true, laidKinds := [.data, .pinned], laidTests := true, laidLooks := .later }
def UtfGoesUptoCardSaid : Prop := Claim7.holds Tryd.pinned (.plain (OpenSpec.upto utfGoesSpec)) utfGoesUptoCard

/-- THE SECOND FORM's CARD OF 'backseatlaw01.UtfWrites'. -/
def utfWritesUptoCard : Claim7 := { stood := { row := utfWritesUptoRow, standIns := [], harness := (true, "4c70d1c330509b29c066ec5f802dca863fb53597eb0d91adfccfafa2c14f0452"), looks := false }, kinds := [], alts := [], laidByText := true, laidKinds := [.data, .pinned], laidTests := true, laidLooks := .later }
def UtfWritesUptoCardSaid : Prop := Claim7.holds Tryd.pinned (.plain (OpenSpec.upto utfWritesSpec)) utfWritesUptoCard

/-- THE SECOND FORM's CARD OF 'backseatlaw04.CellMakes'. -/
def cellMakesUptoCard : Claim7 := { stood := { row := cellMakesUptoRow, standIns := [], harness := (true, "4c70d1c330509b29c066ec5f802dca863fb53597eb0d91adfccfafa2c14f0452"), looks := false }, kinds := [], alts := [], laidByText := true, laidKinds := [.data, .pinned], laidTests := true, laidLooks := .later }
def CellMakesUptoCardSaid : Prop := Claim7.holds Tryd.pinned (.plain (OpenSpec.upto cellMakesSpec)) cellMakesUptoCard

/-- THE SECOND FORM's CARD OF 'backseatlaw04.CellMarks'. -/
def cellMarksUptoCard : Claim7 := { stood := { row := cellMarksUptoRow, standIns := [], harness := (true, "4c70d1c330509b29c066ec5f802dca863fb53597eb0d91adfccfafa2c14f0452"), looks := false }, kinds := [], alts := [], laidByText := true, laidKinds := [.data, .pinned], laidTests := true, laidLooks := .later }
def CellMarksUptoCardSaid : Prop := Claim7.holds Tryd.pinned (.plain (OpenSpec.upto cellMarksSpec)) cellMarksUptoCard

/-- THE SECOND FORM's CARD OF 'backseatlaw05.ParseCuts'. -/
def parseCutsUptoCard : Claim7 := { stood := { row := parseCutsUptoRow, standIns := [], harness := (true, "4c70d1c330509b29c066ec5f802dca863fb53597eb0d91adfccfafa2c14f0452"), looks := false }, kinds := [], alts := [], laidByText := true, laidKinds := [.data, .pinned], laidTests := true, laidLooks := .later }
def ParseCutsUptoCardSaid : Prop := Claim7.holds Tryd.pinned (.plain (OpenSpec.upto parseCutsSpec)) parseCutsUptoCard

/-- THE SECOND FORM's CARD OF 'backseatlaw05.ParseEnds'. -/
def parseEndsUptoCard : Claim7 := { stood := { row := parseEndsUptoRow, standIns := [], harness := (true, "4c70d1c330509b29c066ec5f802dca863fb53597eb0d91adfccfafa2c14f0452"), looks := false }, kinds := [], alts := [], laidByText := true, laidKinds := [.data, .pinned], laidTests := true, laidLooks := .later }
def ParseEndsUptoCardSaid : Prop := Claim7.holds Tryd.pinned (.plain (OpenSpec.upto parseEndsSpec)) parseEndsUptoCard

/-- THE SECOND FORM's CARD OF 'backseatlaw05.ParseLetters'. -/
def parseLettersUptoCard : Claim7 := { stood := { row := parseLettersUptoRow, standIns := [], harness := (true, "4c70d1c330509b29c066ec5f802dca863fb53597eb0d91adfccfafa2c14f0452"), looks := false }, kinds := [], alts := [], laidByText := true, laidKinds := [.data, .pinned], laidTests := true, laidLooks := .later }
def ParseLettersUptoCardSaid : Prop := Claim7.holds Tryd.pinned (.plain (OpenSpec.upto parseLettersSpec)) parseLettersUptoCard
end Rows
end Go.Proofs.YthipdgnbpdngpaaDoor
