-- A copy of the text YtbnpcnpdeinacaaDoorGShort with what this claim does not reach left out (prune.py, a program of this project).
import Derived.Test.YtbnpcnpdeinacaaDoorZkWMore
import Derived.Test.YtbnpcnpdeinacaaDoorZkWLast
namespace Go.Proofs.YtbnpcnpdeinacaaDoor
open Go.RowKit Go.Proofs.YtbnpcnpdeinacaaDoorW.PrintWords Go.Proofs.YtbnpcnpdeinacaaDoorW.PrintLast
theorem s1 {α : Type} {a : List α} {i : Nat} {v : α} : a.toArray.setIfInBounds i v = (a.set i v).toArray := List.setIfInBounds_toArray _ _ _
theorem s2 {α : Type} {a : α} {l : List α} {v : α} : (a :: l).set 0 v = v :: l := List.set_cons_zero
theorem s3 {α : Type} {a : α} {l : List α} {i : Nat} {v : α} : (a :: l).set (i + 1) v = a :: l.set i v := List.set_cons_succ
section
variable {P : Program} {md : Region.Mode} {ops : Array Oper} {Q : Exit → Act → World → Prop} {S : World → Prop} {ds : List Nat}
end
abbrev zS := @below_set
abbrev zN := @pw_below_drewN
abbrev zD := @below_drew1
abbrev zA := @below_alloc
abbrev zM := @Aside0.mk
abbrev zL := @World.block_lt_of_cell?
end Go.Proofs.YtbnpcnpdeinacaaDoor
