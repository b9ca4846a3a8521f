-- A copy of the text YtplngfammfdemaaGShort with what this claim does not reach left out (prune.py, a program of this project).
import Derived.Test.YtplngfammfdemaaZsPx0
import Derived.Test.YtplngfammfdemaaZsWTab
import Derived.Test.YtplngfammfdemaaZsWLast
namespace Go.Proofs.Ytplngfammfdemaa
open Go.RowKit Go.Proofs.YtplngfammfdemaaW.PrintWords Go.Proofs.YtplngfammfdemaaW.PrintLast
theorem bb {w w1 : World} {g : Nat} {o : Obj} (hb : Below w.heap.size w w1) (h : w.heap[g]? = some o) : w1.heap[g]? = some o := blk_below h hb
theorem lt1 {w : World} {g : Nat} {o : Obj} (h : w.heap[g]? = some o) : g ≠ w.heap.size := Nat.ne_of_lt (blk_lt h)
theorem gt1 {w : World} {g : Nat} {o : Obj} (h : w.heap[g]? = some o) : w.heap.size ≠ g := Nat.ne_of_gt (blk_lt h)
theorem s1 {α : Type} {a : List α} {i : Nat} {v : α} : a.toArray.setIfInBounds i v = (a.set i v).toArray := List.setIfInBounds_toArray _ _ _
theorem s2 {α : Type} {a : α} {l : List α} {v : α} : (a :: l).set 0 v = v :: l := List.set_cons_zero
theorem s3 {α : Type} {a : α} {l : List α} {i : Nat} {v : α} : (a :: l).set (i + 1) v = a :: l.set i v := List.set_cons_succ
section
variable {P : Program} {md : Region.Mode} {ops : Array Oper} {Q : Exit → Act → World → Prop} {S : World → Prop} {ds : List Nat}
end
theorem put4 {w : World} {g : Nat} {t : TypeId} {u0 u1 u2 u3 v0 v1 v2 v3 : Value} (h : w.heap[g]? = some (.cells #[u0, u1, u2, u3] t (0, 0))) : ((((w.setCell ⟨g, 0, none⟩ v0).setCell ⟨g, 1, none⟩ v1).setCell ⟨g, 2, none⟩ v2).setCell ⟨g, 3, none⟩ v3).heap[g]? = some (.cells #[v0, v1, v2, v3] t (0, 0)) := blk_put (blk_put (blk_put (blk_put (h) 0 _ rfl) 1 _ rfl) 2 _ rfl) 3 _ rfl
theorem far4 {w : World} {g g' : Nat} {t : TypeId} {cs : Array Value} {v0 v1 v2 v3 : Value} (hp : g ≠ g') (h : w.heap[g]? = some (.cells cs t (0, 0))) : ((((w.setCell ⟨g', 0, none⟩ v0).setCell ⟨g', 1, none⟩ v1).setCell ⟨g', 2, none⟩ v2).setCell ⟨g', 3, none⟩ v3).heap[g]? = some (.cells cs t (0, 0)) := blk_far (blk_far (blk_far (blk_far (h) hp _) hp _) hp _) hp _
theorem cz4 {w : World} {g : Nat} {t : TypeId} {u0 u1 u2 u3 : Value} (h : w.heap[g]? = some (.cells #[u0, u1, u2, u3] t (0, 0))) : w.cell? ⟨g, 0, none⟩ = some u0 ∧ w.cell? ⟨g, 1, none⟩ = some u1 ∧ w.cell? ⟨g, 2, none⟩ = some u2 ∧ w.cell? ⟨g, 3, none⟩ = some u3 ∧ w.frozen? ⟨g, 0, none⟩ = false ∧ w.frozen? ⟨g, 1, none⟩ = false ∧ w.frozen? ⟨g, 2, none⟩ = false ∧ w.frozen? ⟨g, 3, none⟩ = false := ⟨(blk_cell h 0).trans rfl, (blk_cell h 1).trans rfl, (blk_cell h 2).trans rfl, (blk_cell h 3).trans rfl, blk_frozen h 0, blk_frozen h 1, blk_frozen h 2, blk_frozen h 3⟩
end Go.Proofs.Ytplngfammfdemaa
