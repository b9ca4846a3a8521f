/-
  NARROWER THAN 'FOR EVERY INPUT', by the rows' own cells (each row's printed sentence says how): UtfReads: laid · UtfBack: laid · UtfGoes: laid · UtfWrites: laid · CellMakes: laid · CellMarks: laid · ParseCuts: laid · ParseEnds: laid · ParseLetters: laid.
  DERIVED. THE GIVEN ROWS OF THIS SEAT. 9 by the template 'for every input the law returns true; each argument reads behind the call as it read before'; 0 by the template 'total and deterministic' (their statements: YthipdgnbpdngpaaDoorTotals.lean).
  GIVEN WITH THE SEED: the statements are not yours to turn. If you find one false, say at which input.
  Laid BY PROGRAM, IN A SANDBOX (cutbox-rows.mjs): the forced cells as the released guide's own fill.sh prints them over the translation cedf13e49ce987da… (all of the seat's roots in one cut). By AI agents, Wed Nov 11 2026. No macro, syntax, notation, axiom, sorry.
-/
import Derived.Test.YthipdgnbpdngpaaDoorChecked
import GoSem.PinnedTables
import GoSem.Claim
import GoSem.ClaimJoined
import GoSem.ClaimMapViews
import Derived.JoinedTies
import Derived.KernelRfl
namespace Go.Proofs.YthipdgnbpdngpaaDoor
/- THE CELL 'sum', in the pinned program and in every row, IS THE sha256 OF THE DUMP (.gsa) THAT YthipdgnbpdngpaaDoorProg.lean LOADS. Nothing in Lean hashes anything: it is a label: what it is worth is what the hold of that sum in a sandbox is worth. -/
noncomputable def Tryd.pinned : Pinned := { name := "ythipdgnbpdngpaadoor", sum := "cedf13e49ce987dadd07755ba251729d88de15e33d7e14507b357076ae0bf832", checked := Tryd.checked }
namespace Rows
def none {H : Type} : Left H := { results := [], args := [] }

/- WHAT THE LISTED PACKAGE-LEVEL VARIABLES READ AS WHEN THE CALL BEGINS. Each datum BY PROGRAM (the guide's laid-datum.mjs) off the statement by which the dump's own 'gosem.cut.vars' lays the variable. In a bare row this is a premise. The card (YthipdgnbpdngpaaDoorCards.lean) ties it to the program's text. -/
def laid_unicode_utf8_acceptRanges {H : Type} : DataW H := .agg [.agg [.lit (.int .u8 128), .lit (.int .u8 191)], .agg [.lit (.int .u8 160), .lit (.int .u8 191)], .agg [.lit (.int .u8 128), .lit (.int .u8 159)], .agg [.lit (.int .u8 144), .lit (.int .u8 191)], .agg [.lit (.int .u8 128), .lit (.int .u8 143)], .agg [.lit (.int .u8 0), .lit (.int .u8 0)], .agg [.lit (.int .u8 0), .lit (.int .u8 0)], .agg [.lit (.int .u8 0), .lit (.int .u8 0)], .agg [.lit (.int .u8 0), .lit (.int .u8 0)], .agg [.lit (.int .u8 0), .lit (.int .u8 0)], .agg [.lit (.int .u8 0), .lit (.int .u8 0)], .agg [.lit (.int .u8 0), .lit (.int .u8 0)], .agg [.lit (.int .u8 0), .lit (.int .u8 0)], .agg [.lit (.int .u8 0), .lit (.int .u8 0)], .agg [.lit (.int .u8 0), .lit (.int .u8 0)], .agg [.lit (.int .u8 0), .lit (.int .u8 0)]]
/-- One of Go's own tables, pinned by name: the form's constant. -/
def laid_unicode_utf8_first : DataW Unit := Go.Pinned.utf8First

/-- 'backseatlaw01.UtfReads': WHATEVER THE INPUT: true; the input reads as it did. -/
def utfReadsSpec : ChangeSpec := { name := "utfReads", fn := fun _ => fun
  | [d] => { results := [.lit (.bool true)], args := [d] }
  | _ => none }
def utfReadsRow : OpenClaim := { program := "ythipdgnbpdngpaadoor", sum := "cedf13e49ce987dadd07755ba251729d88de15e33d7e14507b357076ae0bf832", func := "backseat/backseatlaw01.UtfReads", spec := "utfReads", named := ["unicode/utf8.first", "unicode/utf8.acceptRanges"], apart := false, laid := [("unicode/utf8.acceptRanges", laid_unicode_utf8_acceptRanges), ("unicode/utf8.first", laid_unicode_utf8_first)] }
def UtfReadsSaid : Prop := utfReadsRow.holds Tryd.pinned (OpenSpec.ofChange utfReadsSpec)

/-- ITS FALSE NEIGHBOUR: 'it returns false'. Refute it at one input. -/
def utfReadsWrong : ChangeSpec := { name := "utfReads", fn := fun _ => fun
  | [d] => { results := [.lit (.bool false)], args := [d] }
  | _ => none }
def UtfReadsWrongFalsely : Prop := utfReadsRow.holds Tryd.pinned (OpenSpec.ofChange utfReadsWrong)

/-- 'backseatlaw01.UtfBack': WHATEVER THE INPUT: true; the input reads as it did. -/
def utfBackSpec : ChangeSpec := { name := "utfBack", fn := fun _ => fun
  | [d1, d2] => { results := [.lit (.bool true)], args := [d1, d2] }
  | _ => none }
def utfBackRow : OpenClaim := { program := "ythipdgnbpdngpaadoor", sum := "cedf13e49ce987dadd07755ba251729d88de15e33d7e14507b357076ae0bf832", func := "backseat/backseatlaw01.UtfBack", spec := "utfBack", named := ["unicode/utf8.first", "unicode/utf8.acceptRanges"], apart := false, laid := [("unicode/utf8.acceptRanges", laid_unicode_utf8_acceptRanges), ("unicode/utf8.first", laid_unicode_utf8_first)] }
def UtfBackSaid : Prop := utfBackRow.holds Tryd.pinned (OpenSpec.ofChange utfBackSpec)

/-- ITS FALSE NEIGHBOUR: 'it returns false'. Refute it at one input. -/
def utfBackWrong : ChangeSpec := { name := "utfBack", fn := fun _ => fun
  | [d1, d2] => { results := [.lit (.bool false)], args := [d1, d2] }
  | _ => none }
def UtfBackWrongFalsely : Prop := utfBackRow.holds Tryd.pinned (OpenSpec.ofChange utfBackWrong)

/-- 'backseatlaw01.UtfGoes': WHATEVER THE INPUT: true; the input reads as it did. -/
def utfGoesSpec : ChangeSpec := { name := "utfGoes", fn := fun _ => fun
  | [d1, d2] => { results := [.lit (.bool true)], args := [d1, d2] }
  | _ => none }
def utfGoesRow : OpenClaim := { program := "ythipdgnbpdngpaadoor", sum := "cedf13e49ce987dadd07755ba251729d88de15e33d7e14507b357076ae0bf832", func := "backseat/backseatlaw01.UtfGoes", spec := "utfGoes", named := ["unicode/utf8.first", "unicode/utf8.acceptRanges"], apart := false, laid := [("unicode/utf8.acceptRanges", laid_unicode_utf8_acceptRanges), ("unicode/utf8.first", laid_unicode_utf8_first)] }
def UtfGoesSaid : Prop := utfGoesRow.holds Tryd.pinned (OpenSpec.ofChange utfGoesSpec)

/-- ITS FALSE NEIGHBOUR: 'it returns false'. Refute it at one input. -/
def utfGoesWrong : ChangeSpec := { name := "utfGoes", fn := fun _ => fun
  | [d1, d2] => { results := [.lit (.bool false)], args := [d1, d2] }
  | _ => none }
def UtfGoesWrongFalsely : Prop := utfGoesRow.holds Tryd.pinned (OpenSpec.ofChange utfGoesWrong)

/-- 'backseatlaw01.UtfWrites': WHATEVER THE INPUT: true; the input reads as it did. -/
def utfWritesSpec : ChangeSpec := { name := "utfWrites", fn := fun _ => fun
  | [d] => { results := [.lit (.bool true)], args := [d] }
  | _ => none }
def utfWritesRow : OpenClaim := { program := "ythipdgnbpdngpaadoor", sum := "cedf13e49ce987dadd07755ba251729d88de15e33d7e14507b357076ae0bf832", func := "backseat/backseatlaw01.UtfWrites", spec := "utfWrites", unfollowed := true, recurses := true, named := ["unicode/utf8.first", "unicode/utf8.acceptRanges"], apart := false, laid := [("unicode/utf8.acceptRanges", laid_unicode_utf8_acceptRanges), ("unicode/utf8.first", laid_unicode_utf8_first)] }
def UtfWritesSaid : Prop := utfWritesRow.holds Tryd.pinned (OpenSpec.ofChange utfWritesSpec)

/-- ITS FALSE NEIGHBOUR: 'it returns false'. Refute it at one input. -/
def utfWritesWrong : ChangeSpec := { name := "utfWrites", fn := fun _ => fun
  | [d] => { results := [.lit (.bool false)], args := [d] }
  | _ => none }
def UtfWritesWrongFalsely : Prop := utfWritesRow.holds Tryd.pinned (OpenSpec.ofChange utfWritesWrong)

/-- 'backseatlaw04.CellMakes': WHATEVER THE INPUT: true; the input reads as it did. -/
def cellMakesSpec : ChangeSpec := { name := "cellMakes", fn := fun _ => fun
  | [d1, d2, d3] => { results := [.lit (.bool true)], args := [d1, d2, d3] }
  | _ => none }
def cellMakesRow : OpenClaim := { program := "ythipdgnbpdngpaadoor", sum := "cedf13e49ce987dadd07755ba251729d88de15e33d7e14507b357076ae0bf832", func := "backseat/backseatlaw04.CellMakes", spec := "cellMakes", unfollowed := true, recurses := true, named := ["unicode/utf8.first", "unicode/utf8.acceptRanges"], apart := false, laid := [("unicode/utf8.acceptRanges", laid_unicode_utf8_acceptRanges), ("unicode/utf8.first", laid_unicode_utf8_first)] }
def CellMakesSaid : Prop := cellMakesRow.holds Tryd.pinned (OpenSpec.ofChange cellMakesSpec)

/-- ITS FALSE NEIGHBOUR: 'it returns false'. Refute it at one input. -/
def cellMakesWrong : ChangeSpec := { name := "cellMakes", fn := fun _ => fun
  | [d1, d2, d3] => { results := [.lit (.bool false)], args := [d1, d2, d3] }
  | _ => none }
def CellMakesWrongFalsely : Prop := cellMakesRow.holds Tryd.pinned (OpenSpec.ofChange cellMakesWrong)

/-- 'backseatlaw04.CellMarks': WHATEVER THE INPUT: true; the input reads as it did. -/
def cellMarksSpec : ChangeSpec := { name := "cellMarks", fn := fun _ => fun
  | [d1, d2, d3, d4, d5] => { results := [.lit (.bool true)], args := [d1, d2, d3, d4, d5] }
  | _ => none }
def cellMarksRow : OpenClaim := { program := "ythipdgnbpdngpaadoor", sum := "cedf13e49ce987dadd07755ba251729d88de15e33d7e14507b357076ae0bf832", func := "backseat/backseatlaw04.CellMarks", spec := "cellMarks", unfollowed := true, recurses := true, named := ["unicode/utf8.first", "unicode/utf8.acceptRanges"], apart := false, laid := [("unicode/utf8.acceptRanges", laid_unicode_utf8_acceptRanges), ("unicode/utf8.first", laid_unicode_utf8_first)] }
def CellMarksSaid : Prop := cellMarksRow.holds Tryd.pinned (OpenSpec.ofChange cellMarksSpec)

/-- ITS FALSE NEIGHBOUR: 'it returns false'. Refute it at one input. -/
def cellMarksWrong : ChangeSpec := { name := "cellMarks", fn := fun _ => fun
  | [d1, d2, d3, d4, d5] => { results := [.lit (.bool false)], args := [d1, d2, d3, d4, d5] }
  | _ => none }
def CellMarksWrongFalsely : Prop := cellMarksRow.holds Tryd.pinned (OpenSpec.ofChange cellMarksWrong)

/-- 'backseatlaw05.ParseCuts': WHATEVER THE INPUT: true; the input reads as it did. -/
def parseCutsSpec : ChangeSpec := { name := "parseCuts", fn := fun _ => fun
  | [d1, d2, d3] => { results := [.lit (.bool true)], args := [d1, d2, d3] }
  | _ => none }
def parseCutsRow : OpenClaim := { program := "ythipdgnbpdngpaadoor", sum := "cedf13e49ce987dadd07755ba251729d88de15e33d7e14507b357076ae0bf832", func := "backseat/backseatlaw05.ParseCuts", spec := "parseCuts", unfollowed := true, recurses := true, named := ["unicode/utf8.first", "unicode/utf8.acceptRanges"], apart := false, laid := [("unicode/utf8.acceptRanges", laid_unicode_utf8_acceptRanges), ("unicode/utf8.first", laid_unicode_utf8_first)] }
def ParseCutsSaid : Prop := parseCutsRow.holds Tryd.pinned (OpenSpec.ofChange parseCutsSpec)

/-- ITS FALSE NEIGHBOUR: 'it returns false'. Refute it at one input. -/
def parseCutsWrong : ChangeSpec := { name := "parseCuts", fn := fun _ => fun
  | [d1, d2, d3] => { results := [.lit (.bool false)], args := [d1, d2, d3] }
  | _ => none }
def ParseCutsWrongFalsely : Prop := parseCutsRow.holds Tryd.pinned (OpenSpec.ofChange parseCutsWrong)

/-- 'backseatlaw05.ParseEnds': WHATEVER THE INPUT: true; the input reads as it did. -/
def parseEndsSpec : ChangeSpec := { name := "parseEnds", fn := fun _ => fun
  | [d1, d2] => { results := [.lit (.bool true)], args := [d1, d2] }
  | _ => none }
def parseEndsRow : OpenClaim := { program := "ythipdgnbpdngpaadoor", sum := "cedf13e49ce987dadd07755ba251729d88de15e33d7e14507b357076ae0bf832", func := "backseat/backseatlaw05.ParseEnds", spec := "parseEnds", unfollowed := true, recurses := true, named := ["unicode/utf8.first", "unicode/utf8.acceptRanges"], apart := false, laid := [("unicode/utf8.acceptRanges", laid_unicode_utf8_acceptRanges), ("unicode/utf8.first", laid_unicode_utf8_first)] }
def ParseEndsSaid : Prop := parseEndsRow.holds Tryd.pinned (OpenSpec.ofChange parseEndsSpec)

/-- ITS FALSE NEIGHBOUR: 'it returns false'. Refute it at one input. -/
def parseEndsWrong : ChangeSpec := { name := "parseEnds", fn := fun _ => fun
  | [d1, d2] => { results := [.lit (.bool false)], args := [d1, d2] }
  | _ => none }
def ParseEndsWrongFalsely : Prop := parseEndsRow.holds Tryd.pinned (OpenSpec.ofChange parseEndsWrong)

/-- 'backseatlaw05.ParseLetters': WHATEVER THE INPUT: true; the input reads as it did. -/
def parseLettersSpec : ChangeSpec := { name := "parseLetters", fn := fun _ => fun
  | [d1, d2, d3, d4] => { results := [.lit (.bool true)], args := [d1, d2, d3, d4] }
  | _ => none }
def parseLettersRow : OpenClaim := { program := "ythipdgnbpdngpaadoor", sum := "cedf13e49ce987dadd07755ba251729d88de15e33d7e14507b357076ae0bf832", func := "backseat/backseatlaw05.ParseLetters", spec := "parseLetters", unfollowed := true, recurses := true, named := ["unicode/utf8.first", "unicode/utf8.acceptRanges"], apart := false, laid := [("unicode/utf8.acceptRanges", laid_unicode_utf8_acceptRanges), ("unicode/utf8.first", laid_unicode_utf8_first)] }
def ParseLettersSaid : Prop := parseLettersRow.holds Tryd.pinned (OpenSpec.ofChange parseLettersSpec)

/-- ITS FALSE NEIGHBOUR: 'it returns false'. Refute it at one input. -/
def parseLettersWrong : ChangeSpec := { name := "parseLetters", fn := fun _ => fun
  | [d1, d2, d3, d4] => { results := [.lit (.bool false)], args := [d1, d2, d3, d4] }
  | _ => none }
def ParseLettersWrongFalsely : Prop := parseLettersRow.holds Tryd.pinned (OpenSpec.ofChange parseLettersWrong)

/- THE SECOND FORM. 'bulk': how many values and letters a reading holds, each counted each time it is reached (what is shared counts as often as it is met; a slice's spare places count too). A statement '..UptoSaid' is the law's where the arguments, and the package variables that the reading takes, are together of bulk at most 1048576: NARROWER than '..Said'. Prove '..Said' where nothing that the law and all that it calls make is longer than what came in: it says more and counts as full. Else prove '..UptoSaid'. A law counts once. -/
mutual
def uptoBulk {H : Type} : DataW H → Nat
  | .lit (.string bytes) => bytes.length + 1
  | .lit _ => 1
  | .nil => 1
  | .ptr d => uptoBulk d + 1
  | .slice elems spare => uptoBulkAll elems + uptoBulkAll spare + 1
  | .agg parts => uptoBulkAll parts + 1
  | .iface _ d => uptoBulk d + 1
  | .map entries => uptoBulkEntries entries + 1
  | .held _ => 1
def uptoBulkAll {H : Type} : List (DataW H) → Nat
  | [] => 0
  | d :: r => uptoBulk d + uptoBulkAll r
def uptoBulkEntries {H : Type} : List (Lit × DataW H) → Nat
  | [] => 0
  | x :: r => uptoBulkEntry x + uptoBulkEntries r
def uptoBulkEntry {H : Type} : Lit × DataW H → Nat
  | (.string bytes, d) => bytes.length + uptoBulk d + 1
  | (_, d) => uptoBulk d + 1
 end
def uptoSmall : (H : Type) → List (DataW H) → Bool := fun _ ds => decide (uptoBulkAll ds ≤ 1048576)
def OpenSpec.upto (s : _root_.Go.ChangeSpec) : _root_.Go.OpenSpec := { _root_.Go.OpenSpec.ofChange s with cond := some uptoSmall }

/-- 'backseatlaw01.UtfReads', WHERE WHAT IT READS IS OF BULK AT MOST 1048576: true; the input reads as it did. -/
def utfReadsUptoRow : OpenClaim := { program := "ythipdgnbpdngpaadoor", sum := "cedf13e49ce987dadd07755ba251729d88de15e33d7e14507b357076ae0bf832", func := "backseat/backseatlaw01.UtfReads", spec := "utfReads", named := ["unicode/utf8.first", "unicode/utf8.acceptRanges"], apart := false, laid := [("unicode/utf8.acceptRanges", laid_unicode_utf8_acceptRanges), ("unicode/utf8.first", laid_unicode_utf8_first)], narrowed := true }
def UtfReadsUptoSaid : Prop := utfReadsUptoRow.holds Tryd.pinned (OpenSpec.upto utfReadsSpec)

/-- 'backseatlaw01.UtfBack', WHERE WHAT IT READS IS OF BULK AT MOST 1048576: true; the input reads as it did. -/
def utfBackUptoRow : OpenClaim := { program := "ythipdgnbpdngpaadoor", sum := "cedf13e49ce987dadd07755ba251729d88de15e33d7e14507b357076ae0bf832", func := "backseat/backseatlaw01.UtfBack", spec := "utfBack", named := ["unicode/utf8.first", "unicode/utf8.acceptRanges"], apart := false, laid := [("unicode/utf8.acceptRanges", laid_unicode_utf8_acceptRanges), ("unicode/utf8.first", laid_unicode_utf8_first)], narrowed := true }
def UtfBackUptoSaid : Prop := utfBackUptoRow.holds Tryd.pinned (OpenSpec.upto utfBackSpec)

/-- 'backseatlaw01.UtfGoes', WHERE WHAT IT READS IS OF BULK AT MOST 1048576: true; the input reads as it did. -/
def utfGoesUptoRow : OpenClaim := { program := "ythipdgnbpdngpaadoor", sum := "cedf13e49ce987dadd07755ba251729d88de15e33d7e14507b357076ae0bf832", func := "backseat/backseatlaw01.UtfGoes", spec := "utfGoes", named := ["unicode/utf8.first", "unicode/utf8.acceptRanges"], apart := false, laid := [("unicode/utf8.acceptRanges", laid_unicode_utf8_acceptRanges), ("unicode/utf8.first", laid_unicode_utf8_first)], narrowed := true }
def UtfGoesUptoSaid : Prop := utfGoesUptoRow.holds Tryd.pinned (OpenSpec.upto utfGoesSpec)

/-- 'backseatlaw01.UtfWrites', WHERE WHAT IT READS IS OF BULK AT MOST 1048576: true; the input reads as it did. -/
def utfWritesUptoRow : OpenClaim := { program := "ythipdgnbpdngpaadoor", sum := "cedf13e49ce987dadd07755ba251729d88de15e33d7e14507b357076ae0bf832", func := "backseat/backseatlaw01.UtfWrites", spec := "utfWrites", unfollowed := true, recurses := true, named := ["unicode/utf8.first", "unicode/utf8.acceptRanges"], apart := false, laid := [("unicode/utf8.acceptRanges", laid_unicode_utf8_acceptRanges), ("unicode/utf8.first", laid_unicode_utf8_first)], narrowed := true }
def UtfWritesUptoSaid : Prop := utfWritesUptoRow.holds Tryd.pinned (OpenSpec.upto utfWritesSpec)

/-- 'backseatlaw04.CellMakes', WHERE WHAT IT READS IS OF BULK AT MOST 1048576: true; the input reads as it did. -/
def cellMakesUptoRow : OpenClaim := { program := "ythipdgnbpdngpaadoor", sum := "cedf13e49ce987dadd07755ba251729d88de15e33d7e14507b357076ae0bf832", func := "backseat/backseatlaw04.CellMakes", spec := "cellMakes", unfollowed := true, recurses := true, named := ["unicode/utf8.first", "unicode/utf8.acceptRanges"], apart := false, laid := [("unicode/utf8.acceptRanges", laid_unicode_utf8_acceptRanges), ("unicode/utf8.first", laid_unicode_utf8_first)], narrowed := true }
def CellMakesUptoSaid : Prop := cellMakesUptoRow.holds Tryd.pinned (OpenSpec.upto cellMakesSpec)

/-- 'backseatlaw04.CellMarks', WHERE WHAT IT READS IS OF BULK AT MOST 1048576: true; the input reads as it did. -/
def cellMarksUptoRow : OpenClaim := { program := "ythipdgnbpdngpaadoor", sum := "cedf13e49ce987dadd07755ba251729d88de15e33d7e14507b357076ae0bf832", func := "backseat/backseatlaw04.CellMarks", spec := "cellMarks", unfollowed := true, recurses := true, named := ["unicode/utf8.first", "unicode/utf8.acceptRanges"], apart := false, laid := [("unicode/utf8.acceptRanges", laid_unicode_utf8_acceptRanges), ("unicode/utf8.first", laid_unicode_utf8_first)], narrowed := true }
def CellMarksUptoSaid : Prop := cellMarksUptoRow.holds Tryd.pinned (OpenSpec.upto cellMarksSpec)

/-- 'backseatlaw05.ParseCuts', WHERE WHAT IT READS IS OF BULK AT MOST 1048576: true; the input reads as it did. -/
def parseCutsUptoRow : OpenClaim := { program := "ythipdgnbpdngpaadoor", sum := "cedf13e49ce987dadd07755ba251729d88de15e33d7e14507b357076ae0bf832", func := "backseat/backseatlaw05.ParseCuts", spec := "parseCuts", unfollowed := true, recurses := true, named := ["unicode/utf8.first", "unicode/utf8.acceptRanges"], apart := false, laid := [("unicode/utf8.acceptRanges", laid_unicode_utf8_acceptRanges), ("unicode/utf8.first", laid_unicode_utf8_first)], narrowed := true }
def ParseCutsUptoSaid : Prop := parseCutsUptoRow.holds Tryd.pinned (OpenSpec.upto parseCutsSpec)

/-- 'backseatlaw05.ParseEnds', WHERE WHAT IT READS IS OF BULK AT MOST 1048576: true; the input reads as it did. -/
def parseEndsUptoRow : OpenClaim := { program := "ythipdgnbpdngpaadoor", sum := "cedf13e49ce987dadd07755ba251729d88de15e33d7e14507b357076ae0bf832", func := "backseat/backseatlaw05.ParseEnds", spec := "parseEnds", unfollowed := true, recurses := true, named := ["unicode/utf8.first", "unicode/utf8.acceptRanges"], apart := false, laid := [("unicode/utf8.acceptRanges", laid_unicode_utf8_acceptRanges), ("unicode/utf8.first", laid_unicode_utf8_first)], narrowed := true }
def ParseEndsUptoSaid : Prop := parseEndsUptoRow.holds Tryd.pinned (OpenSpec.upto parseEndsSpec)

/-- 'backseatlaw05.ParseLetters', WHERE WHAT IT READS IS OF BULK AT MOST 1048576: true; the input reads as it did. -/
def parseLettersUptoRow : OpenClaim := { program := "ythipdgnbpdngpaadoor", sum := "cedf13e49ce987dadd07755ba251729d88de15e33d7e14507b357076ae0bf832", func := "backseat/backseatlaw05.ParseLetters", spec := "parseLetters", unfollowed := true, recurses := true, named := ["unicode/utf8.first", "unicode/utf8.acceptRanges"], apart := false, laid := [("unicode/utf8.acceptRanges", laid_unicode_utf8_acceptRanges), ("unicode/utf8.first", laid_unicode_utf8_first)], narrowed := true }
def ParseLettersUptoSaid : Prop := parseLettersUptoRow.holds Tryd.pinned (OpenSpec.upto parseLettersSpec)

end Rows
end Go.Proofs.YthipdgnbpdngpaaDoor
