-- A copy of the text YthipdgnbpdngpaaDoorMP0 with what this claim does not reach left out (prune.py, a program of this project).
import Derived.Test.YthipdgnbpdngpaaDoorZpGRd8
import Derived.Test.YthipdgnbpdngpaaDoorZpMFirst
namespace Go.Proofs.YthipdgnbpdngpaaDoor
open Go.RowKit Go.Proofs.YthipdgnbpdngpaaDoorW.PrintWords S
set_option linter.unusedVariables false
set_option linter.unusedSimpArgs false
def pr (x : Int) : S62 := ⟨1, x, 0, 0, [], 0, ⟨#[]⟩⟩
def ex (c : Int) : S62 := ⟨2, 0, c, 0, [], 0, ⟨#[]⟩⟩
def oscDo (s : ByteArray) : S62 := ⟨5, 0, 0, 0, [], 0, s⟩
def pendAs (p : S52) (s : ByteArray) : S52 := ⟨p.f0, p.f1, p.f2, p.f3, p.f4, s⟩
def groundR (pend : S52 → List S62 → S52 × List S62) (p : S52) (d : List S62) (c : Int) : S52 × List S62 :=
  if 128 ≤ c then pend (pendAs p (strOfNums [c])) d else if 32 ≤ c ∧ c < 127 then (p, d ++ [pr c]) else (p, d)
def stateR (pend : S52 → List S62 → S52 × List S62) (p : S52) (d : List S62) (c : Int) : S52 × List S62 :=
  if p.f0 = 0 then groundR pend p d c else if p.f0 = 1 then escR p d c else if p.f0 = 2 then (interP p c, interD p d c) else if p.f0 = 3 then (csiP p c, csiD p d c) else if p.f0 = 4 then (behindP p c, behindD p d c)
  else if p.f0 = 5 then (skipP p c, d) else if p.f0 = 6 then oscR p d c else if p.f0 = 7 then (p, d) else (dropP p c, d)
def takeR (pend : S52 → List S62 → S52 × List S62) (p : S52) (d : List S62) (c : Int) : S52 × List S62 :=
  if p.f5.size ≠ 0 then pend (pendAs p (p.f5 ++ strOfNums [c])) d
  else if c = 24 ∨ c = 26 then (toF 0, if p.f0 = 6 ∨ p.f0 = 7 then d else d ++ [ex c])
  else if c = 27 then (toF 1, if p.f0 = 6 then d ++ [oscDo p.f4] else d)
  else if c < 32 ∧ p.f0 ≠ 6 ∧ p.f0 ≠ 7 then (p, d ++ [ex c])
  else stateR pend p d c
def pendR : Nat → S52 → List S62 → S52 × List S62
  | 0, p, d => (p, d)
  | k + 1, p, d =>
    if (firstL p.f5.data.toList).2.2 = 2 then (p, d)
    else if (firstL p.f5.data.toList).2.2 = 0 then (pendAs p ⟨#[]⟩, if 160 ≤ (firstL p.f5.data.toList).1 then d ++ [pr (firstL p.f5.data.toList).1] else d)
    else (p.f5.data.toList.drop (firstL p.f5.data.toList).2.1.toNat).foldl (fun s b => takeR (pendR k) s.1 s.2 (b.toNat : Int)) (pendAs p ⟨#[]⟩, d ++ [pr 65533])
end Go.Proofs.YthipdgnbpdngpaaDoor
