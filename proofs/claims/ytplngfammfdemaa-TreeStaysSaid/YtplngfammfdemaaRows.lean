/-
  NARROWER THAN 'FOR EVERY INPUT', by the rows' own cells (each row's printed sentence says how): TreeApart: loops · TreeStays: loops.
  DERIVED. THE GIVEN ROWS OF THIS SEAT. 8 by the template 'for every input the law returns true; each argument reads behind the call as it read before'; 0 by the template 'total and deterministic' (their statements: YtplngfammfdemaaTotals.lean).
  GIVEN WITH THE SEED: the statements are not yours to turn. If you find one false, say at which input.
  Laid BY PROGRAM, IN A SANDBOX (cutbox-rows.mjs): the forced cells as the released guide's own fill.sh prints them over the translation 347a92df2822b7ba… (all of the seat's roots in one cut). By AI agents, Wed Nov 11 2026. No macro, syntax, notation, axiom, sorry.
-/
import Derived.Test.YtplngfammfdemaaChecked
import GoSem.Claim
import GoSem.ClaimJoined
import GoSem.ClaimMapViews
import Derived.JoinedTies
import Derived.KernelRfl
namespace Go.Proofs.Ytplngfammfdemaa
/- THE CELL 'sum', in the pinned program and in every row, IS THE sha256 OF THE DUMP (.gsa) THAT YtplngfammfdemaaProg.lean LOADS. Nothing in Lean hashes anything: it is a label: what it is worth is what the hold of that sum in a sandbox is worth. -/
noncomputable def Try.pinned : Pinned := { name := "ytplngfammfdemaa", sum := "347a92df2822b7ba2cfa15dd607213945da7269c32679f8e5dcdcf84345fdab0", checked := Try.checked }
namespace Rows
def none {H : Type} : Left H := { results := [], args := [] }

/-- 'backseatlaw12.PresetEven': WHATEVER THE INPUT: true; the input reads as it did. -/
def presetEvenSpec : ChangeSpec := { name := "presetEven", fn := fun _ => fun
  | [d1, d2] => { results := [.lit (.bool true)], args := [d1, d2] }
  | _ => none }
def presetEvenRow : OpenClaim := { program := "ytplngfammfdemaa", sum := "347a92df2822b7ba2cfa15dd607213945da7269c32679f8e5dcdcf84345fdab0", func := "backseat/backseatlaw12.PresetEven", spec := "presetEven", unfollowed := true, recurses := true, apart := false }
def PresetEvenSaid : Prop := presetEvenRow.holds Try.pinned (OpenSpec.ofChange presetEvenSpec)

/-- ITS FALSE NEIGHBOUR: 'it returns false'. Refute it at one input. -/
def presetEvenWrong : ChangeSpec := { name := "presetEven", fn := fun _ => fun
  | [d1, d2] => { results := [.lit (.bool false)], args := [d1, d2] }
  | _ => none }
def PresetEvenWrongFalsely : Prop := presetEvenRow.holds Try.pinned (OpenSpec.ofChange presetEvenWrong)

/-- 'backseatlaw12.PresetLays': WHATEVER THE INPUT: true; the input reads as it did. -/
def presetLaysSpec : ChangeSpec := { name := "presetLays", fn := fun _ => fun
  | [d1, d2, d3, d4] => { results := [.lit (.bool true)], args := [d1, d2, d3, d4] }
  | _ => none }
def presetLaysRow : OpenClaim := { program := "ytplngfammfdemaa", sum := "347a92df2822b7ba2cfa15dd607213945da7269c32679f8e5dcdcf84345fdab0", func := "backseat/backseatlaw12.PresetLays", spec := "presetLays", unfollowed := true, recurses := true, apart := false }
def PresetLaysSaid : Prop := presetLaysRow.holds Try.pinned (OpenSpec.ofChange presetLaysSpec)

/-- ITS FALSE NEIGHBOUR: 'it returns false'. Refute it at one input. -/
def presetLaysWrong : ChangeSpec := { name := "presetLays", fn := fun _ => fun
  | [d1, d2, d3, d4] => { results := [.lit (.bool false)], args := [d1, d2, d3, d4] }
  | _ => none }
def PresetLaysWrongFalsely : Prop := presetLaysRow.holds Try.pinned (OpenSpec.ofChange presetLaysWrong)

/-- 'backseatlaw12.PresetFits': WHATEVER THE INPUT: true; the input reads as it did. -/
def presetFitsSpec : ChangeSpec := { name := "presetFits", fn := fun _ => fun
  | [d1, d2, d3, d4] => { results := [.lit (.bool true)], args := [d1, d2, d3, d4] }
  | _ => none }
def presetFitsRow : OpenClaim := { program := "ytplngfammfdemaa", sum := "347a92df2822b7ba2cfa15dd607213945da7269c32679f8e5dcdcf84345fdab0", func := "backseat/backseatlaw12.PresetFits", spec := "presetFits", unfollowed := true, recurses := true, apart := false }
def PresetFitsSaid : Prop := presetFitsRow.holds Try.pinned (OpenSpec.ofChange presetFitsSpec)

/-- ITS FALSE NEIGHBOUR: 'it returns false'. Refute it at one input. -/
def presetFitsWrong : ChangeSpec := { name := "presetFits", fn := fun _ => fun
  | [d1, d2, d3, d4] => { results := [.lit (.bool false)], args := [d1, d2, d3, d4] }
  | _ => none }
def PresetFitsWrongFalsely : Prop := presetFitsRow.holds Try.pinned (OpenSpec.ofChange presetFitsWrong)

/-- 'backseatlaw16.SizeTells': WHATEVER THE INPUT: true; the input reads as it did. -/
def sizeTellsSpec : ChangeSpec := { name := "sizeTells", fn := fun _ => fun
  | [d1, d2] => { results := [.lit (.bool true)], args := [d1, d2] }
  | _ => none }
def sizeTellsRow : OpenClaim := { program := "ytplngfammfdemaa", sum := "347a92df2822b7ba2cfa15dd607213945da7269c32679f8e5dcdcf84345fdab0", func := "backseat/backseatlaw16.SizeTells", spec := "sizeTells", inPlace := ["slices.overlaps[backseat/api.Seat]"], unfollowed := true, recurses := true, apart := false }
def SizeTellsSaid : Prop := sizeTellsRow.holds Try.pinned (OpenSpec.ofChange sizeTellsSpec)

/-- ITS FALSE NEIGHBOUR: 'it returns false'. Refute it at one input. -/
def sizeTellsWrong : ChangeSpec := { name := "sizeTells", fn := fun _ => fun
  | [d1, d2] => { results := [.lit (.bool false)], args := [d1, d2] }
  | _ => none }
def SizeTellsWrongFalsely : Prop := sizeTellsRow.holds Try.pinned (OpenSpec.ofChange sizeTellsWrong)

/-- 'backseatlaw11.TreeApart': WHATEVER THE INPUT: true; the input reads as it did. -/
def treeApartSpec : ChangeSpec := { name := "treeApart", fn := fun _ => fun
  | [d1, d2, d3] => { results := [.lit (.bool true)], args := [d1, d2, d3] }
  | _ => none }
def treeApartRow : OpenClaim := { program := "ytplngfammfdemaa", sum := "347a92df2822b7ba2cfa15dd607213945da7269c32679f8e5dcdcf84345fdab0", func := "backseat/backseatlaw11.TreeApart", spec := "treeApart", inPlace := ["slices.overlaps[backseat/api.Tree]"], unfollowed := true, recurses := true, loops := true, apart := false }
def TreeApartSaid : Prop := treeApartRow.holds Try.pinned (OpenSpec.ofChange treeApartSpec)

/-- ITS FALSE NEIGHBOUR: 'it returns false'. Refute it at one input. -/
def treeApartWrong : ChangeSpec := { name := "treeApart", fn := fun _ => fun
  | [d1, d2, d3] => { results := [.lit (.bool false)], args := [d1, d2, d3] }
  | _ => none }
def TreeApartWrongFalsely : Prop := treeApartRow.holds Try.pinned (OpenSpec.ofChange treeApartWrong)

/-- 'backseatlaw16.SizeSits': WHATEVER THE INPUT: true; the input reads as it did. -/
def sizeSitsSpec : ChangeSpec := { name := "sizeSits", fn := fun _ => fun
  | [d1, d2, d3, d4, d5] => { results := [.lit (.bool true)], args := [d1, d2, d3, d4, d5] }
  | _ => none }
def sizeSitsRow : OpenClaim := { program := "ytplngfammfdemaa", sum := "347a92df2822b7ba2cfa15dd607213945da7269c32679f8e5dcdcf84345fdab0", func := "backseat/backseatlaw16.SizeSits", spec := "sizeSits", inPlace := ["slices.overlaps[backseat/api.Seat]"], unfollowed := true, recurses := true, apart := false }
def SizeSitsSaid : Prop := sizeSitsRow.holds Try.pinned (OpenSpec.ofChange sizeSitsSpec)

/-- ITS FALSE NEIGHBOUR: 'it returns false'. Refute it at one input. -/
def sizeSitsWrong : ChangeSpec := { name := "sizeSits", fn := fun _ => fun
  | [d1, d2, d3, d4, d5] => { results := [.lit (.bool false)], args := [d1, d2, d3, d4, d5] }
  | _ => none }
def SizeSitsWrongFalsely : Prop := sizeSitsRow.holds Try.pinned (OpenSpec.ofChange sizeSitsWrong)

/-- 'backseatlaw16.SizeActive': WHATEVER THE INPUT: true; the input reads as it did. -/
def sizeActiveSpec : ChangeSpec := { name := "sizeActive", fn := fun _ => fun
  | [d] => { results := [.lit (.bool true)], args := [d] }
  | _ => none }
def sizeActiveRow : OpenClaim := { program := "ytplngfammfdemaa", sum := "347a92df2822b7ba2cfa15dd607213945da7269c32679f8e5dcdcf84345fdab0", func := "backseat/backseatlaw16.SizeActive", spec := "sizeActive", inPlace := ["slices.overlaps[backseat/api.Seat]"], unfollowed := true, recurses := true, apart := false }
def SizeActiveSaid : Prop := sizeActiveRow.holds Try.pinned (OpenSpec.ofChange sizeActiveSpec)

/-- ITS FALSE NEIGHBOUR: 'it returns false'. Refute it at one input. -/
def sizeActiveWrong : ChangeSpec := { name := "sizeActive", fn := fun _ => fun
  | [d] => { results := [.lit (.bool false)], args := [d] }
  | _ => none }
def SizeActiveWrongFalsely : Prop := sizeActiveRow.holds Try.pinned (OpenSpec.ofChange sizeActiveWrong)

/-- 'backseatlaw11.TreeStays': WHATEVER THE INPUT: true; the input reads as it did. -/
def treeStaysSpec : ChangeSpec := { name := "treeStays", fn := fun _ => fun
  | [d1, d2, d3, d4, d5, d6, d7, d8] => { results := [.lit (.bool true)], args := [d1, d2, d3, d4, d5, d6, d7, d8] }
  | _ => none }
def treeStaysRow : OpenClaim := { program := "ytplngfammfdemaa", sum := "347a92df2822b7ba2cfa15dd607213945da7269c32679f8e5dcdcf84345fdab0", func := "backseat/backseatlaw11.TreeStays", spec := "treeStays", inPlace := ["slices.overlaps[backseat/api.Tree]"], unfollowed := true, recurses := true, loops := true, apart := false }
def TreeStaysSaid : Prop := treeStaysRow.holds Try.pinned (OpenSpec.ofChange treeStaysSpec)

/-- ITS FALSE NEIGHBOUR: 'it returns false'. Refute it at one input. -/
def treeStaysWrong : ChangeSpec := { name := "treeStays", fn := fun _ => fun
  | [d1, d2, d3, d4, d5, d6, d7, d8] => { results := [.lit (.bool false)], args := [d1, d2, d3, d4, d5, d6, d7, d8] }
  | _ => none }
def TreeStaysWrongFalsely : Prop := treeStaysRow.holds Try.pinned (OpenSpec.ofChange treeStaysWrong)

/- THE SECOND FORM. 'bulk': how many values and letters a reading holds, each counted each time it is reached (what is shared counts as often as it is met; a slice's spare places count too). A statement '..UptoSaid' is the law's where the arguments, and the package variables that the reading takes, are together of bulk at most 1048576: NARROWER than '..Said'. Prove '..Said' where nothing that the law and all that it calls make is longer than what came in: it says more and counts as full. Else prove '..UptoSaid'. A law counts once. -/
mutual
def uptoBulk {H : Type} : DataW H → Nat
  | .lit (.string bytes) => bytes.length + 1
  | .lit _ => 1
  | .nil => 1
  | .ptr d => uptoBulk d + 1
  | .slice elems spare => uptoBulkAll elems + uptoBulkAll spare + 1
  | .agg parts => uptoBulkAll parts + 1
  | .iface _ d => uptoBulk d + 1
  | .map entries => uptoBulkEntries entries + 1
  | .held _ => 1
def uptoBulkAll {H : Type} : List (DataW H) → Nat
  | [] => 0
  | d :: r => uptoBulk d + uptoBulkAll r
def uptoBulkEntries {H : Type} : List (Lit × DataW H) → Nat
  | [] => 0
  | x :: r => uptoBulkEntry x + uptoBulkEntries r
def uptoBulkEntry {H : Type} : Lit × DataW H → Nat
  | (.string bytes, d) => bytes.length + uptoBulk d + 1
  | (_, d) => uptoBulk d + 1
 end
def uptoSmall : (H : Type) → List (DataW H) → Bool := fun _ ds => decide (uptoBulkAll ds ≤ 1048576)
def OpenSpec.upto (s : _root_.Go.ChangeSpec) : _root_.Go.OpenSpec := { _root_.Go.OpenSpec.ofChange s with cond := some uptoSmall }

/-- 'backseatlaw12.PresetEven', WHERE WHAT IT READS IS OF BULK AT MOST 1048576: true; the input reads as it did. -/
def presetEvenUptoRow : OpenClaim := { program := "ytplngfammfdemaa", sum := "347a92df2822b7ba2cfa15dd607213945da7269c32679f8e5dcdcf84345fdab0", func := "backseat/backseatlaw12.PresetEven", spec := "presetEven", unfollowed := true, recurses := true, apart := false, narrowed := true }
def PresetEvenUptoSaid : Prop := presetEvenUptoRow.holds Try.pinned (OpenSpec.upto presetEvenSpec)

/-- 'backseatlaw12.PresetLays', WHERE WHAT IT READS IS OF BULK AT MOST 1048576: true; the input reads as it did. -/
def presetLaysUptoRow : OpenClaim := { program := "ytplngfammfdemaa", sum := "347a92df2822b7ba2cfa15dd607213945da7269c32679f8e5dcdcf84345fdab0", func := "backseat/backseatlaw12.PresetLays", spec := "presetLays", unfollowed := true, recurses := true, apart := false, narrowed := true }
def PresetLaysUptoSaid : Prop := presetLaysUptoRow.holds Try.pinned (OpenSpec.upto presetLaysSpec)

/-- 'backseatlaw12.PresetFits', WHERE WHAT IT READS IS OF BULK AT MOST 1048576: true; the input reads as it did. -/
def presetFitsUptoRow : OpenClaim := { program := "ytplngfammfdemaa", sum := "347a92df2822b7ba2cfa15dd607213945da7269c32679f8e5dcdcf84345fdab0", func := "backseat/backseatlaw12.PresetFits", spec := "presetFits", unfollowed := true, recurses := true, apart := false, narrowed := true }
def PresetFitsUptoSaid : Prop := presetFitsUptoRow.holds Try.pinned (OpenSpec.upto presetFitsSpec)

/-- 'backseatlaw16.SizeTells', WHERE WHAT IT READS IS OF BULK AT MOST 1048576: true; the input reads as it did. -/
def sizeTellsUptoRow : OpenClaim := { program := "ytplngfammfdemaa", sum := "347a92df2822b7ba2cfa15dd607213945da7269c32679f8e5dcdcf84345fdab0", func := "backseat/backseatlaw16.SizeTells", spec := "sizeTells", inPlace := ["slices.overlaps[backseat/api.Seat]"], unfollowed := true, recurses := true, apart := false, narrowed := true }
def SizeTellsUptoSaid : Prop := sizeTellsUptoRow.holds Try.pinned (OpenSpec.upto sizeTellsSpec)

/-- 'backseatlaw11.TreeApart', WHERE WHAT IT READS IS OF BULK AT MOST 1048576: true; the input reads as it did. -/
def treeApartUptoRow : OpenClaim := { program := "ytplngfammfdemaa", sum := "347a92df2822b7ba2cfa15dd607213945da7269c32679f8e5dcdcf84345fdab0", func := "backseat/backseatlaw11.TreeApart", spec := "treeApart", inPlace := ["slices.overlaps[backseat/api.Tree]"], unfollowed := true, recurses := true, loops := true, apart := false, narrowed := true }
def TreeApartUptoSaid : Prop := treeApartUptoRow.holds Try.pinned (OpenSpec.upto treeApartSpec)

/-- 'backseatlaw16.SizeSits', WHERE WHAT IT READS IS OF BULK AT MOST 1048576: true; the input reads as it did. -/
def sizeSitsUptoRow : OpenClaim := { program := "ytplngfammfdemaa", sum := "347a92df2822b7ba2cfa15dd607213945da7269c32679f8e5dcdcf84345fdab0", func := "backseat/backseatlaw16.SizeSits", spec := "sizeSits", inPlace := ["slices.overlaps[backseat/api.Seat]"], unfollowed := true, recurses := true, apart := false, narrowed := true }
def SizeSitsUptoSaid : Prop := sizeSitsUptoRow.holds Try.pinned (OpenSpec.upto sizeSitsSpec)

/-- 'backseatlaw16.SizeActive', WHERE WHAT IT READS IS OF BULK AT MOST 1048576: true; the input reads as it did. -/
def sizeActiveUptoRow : OpenClaim := { program := "ytplngfammfdemaa", sum := "347a92df2822b7ba2cfa15dd607213945da7269c32679f8e5dcdcf84345fdab0", func := "backseat/backseatlaw16.SizeActive", spec := "sizeActive", inPlace := ["slices.overlaps[backseat/api.Seat]"], unfollowed := true, recurses := true, apart := false, narrowed := true }
def SizeActiveUptoSaid : Prop := sizeActiveUptoRow.holds Try.pinned (OpenSpec.upto sizeActiveSpec)

/-- 'backseatlaw11.TreeStays', WHERE WHAT IT READS IS OF BULK AT MOST 1048576: true; the input reads as it did. -/
def treeStaysUptoRow : OpenClaim := { program := "ytplngfammfdemaa", sum := "347a92df2822b7ba2cfa15dd607213945da7269c32679f8e5dcdcf84345fdab0", func := "backseat/backseatlaw11.TreeStays", spec := "treeStays", inPlace := ["slices.overlaps[backseat/api.Tree]"], unfollowed := true, recurses := true, loops := true, apart := false, narrowed := true }
def TreeStaysUptoSaid : Prop := treeStaysUptoRow.holds Try.pinned (OpenSpec.upto treeStaysSpec)

end Rows
end Go.Proofs.Ytplngfammfdemaa
