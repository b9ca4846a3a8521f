-- Copies of the texts YthipdgnbpdngpaaDoorGLike, YthipdgnbpdngpaaDoorGShort with what this claim does not reach left out (prune.py, a program of this project).
import Derived.Test.YthipdgnbpdngpaaDoorZpSx0
import Derived.Test.YthipdgnbpdngpaaDoorZpWMore
import Derived.Test.YthipdgnbpdngpaaDoorZpWTab
import Derived.Test.YthipdgnbpdngpaaDoorZpWLast
section
namespace Go.Proofs.YthipdgnbpdngpaaDoor
open Go.RowKit
theorem is_call_ {P : Program} (f : FuncId) {args : Array Value} {w : World} {Q : Ending → World → Prop} (h : Calls P f args w Q) : Calls P f args w Q := h
end Go.Proofs.YthipdgnbpdngpaaDoor
end
section
namespace Go.Proofs.YthipdgnbpdngpaaDoor
open Go.RowKit Go.Proofs.YthipdgnbpdngpaaDoorW.PrintWords Go.Proofs.YthipdgnbpdngpaaDoorW.PrintLast
theorem bb {w w1 : World} {g : Nat} {o : Obj} (hb : Below w.heap.size w w1) (h : w.heap[g]? = some o) : w1.heap[g]? = some o := blk_below h hb
theorem lt1 {w : World} {g : Nat} {o : Obj} (h : w.heap[g]? = some o) : g ≠ w.heap.size := Nat.ne_of_lt (blk_lt h)
theorem gt1 {w : World} {g : Nat} {o : Obj} (h : w.heap[g]? = some o) : w.heap.size ≠ g := Nat.ne_of_gt (blk_lt h)
theorem s1 {α : Type} {a : List α} {i : Nat} {v : α} : a.toArray.setIfInBounds i v = (a.set i v).toArray := List.setIfInBounds_toArray _ _ _
theorem s2 {α : Type} {a : α} {l : List α} {v : α} : (a :: l).set 0 v = v :: l := List.set_cons_zero
theorem s3 {α : Type} {a : α} {l : List α} {i : Nat} {v : α} : (a :: l).set (i + 1) v = a :: l.set i v := List.set_cons_succ
def mk_ (n b : Nat) : Array Bool := ((List.range n).map fun i => b.testBit i).toArray
section
variable {P : Program} {md : Region.Mode} {ops : Array Oper} {Q : Exit → Act → World → Prop} {S : World → Prop} {ds : List Nat}
theorem pv {T : Bool × List (List Nat × List Nat)} {oi : Oper} {v : Value} {fuel : Nat} {l : Array Bool} {a : Act} {w : World} {a' : Act} (hT : rtab md ops = T) (i : Nat) (N : Option Tmp) (l' : Array Bool)
    (hr : ∀ w, (execOp a.eval oi).run P w = .ok (.value v) w) (ha : a.put N v = a') (h : wpAnyLast P md ops Q S ds fuel l' a' w) (hi : ops[i]? = some oi := by rfl) (hN : oi.dst = N := by rfl) (hc : anyT T l.toList l'.toList i = true := by kernel_rfl)
    (hQ : ∀ c a w, Q (.panic c) (a.put oi.dst v) w → Q (.panic c) a w := by exact fun _ _ _ h => h) (hw : Region.wanted oi (yielded ops a.tmps) = true := by rfl) : wpAnyLast P md ops Q S ds (fuel + 1) l a w := pure_ l' hi hN (any_of hT hc) hQ (Or.inl ⟨hw, hr⟩) ha h
theorem ga {rest : List Oper} {oi : Oper} {a : Act} {w : World} (N : Option Tmp) (hd : oi.dst = N) (hg : oi.guard = none) {f : FuncId} {fn : Func} {os_ : Array Operand} {ts : Array TypeId} (hf : P.funcs[f]? = some fn) (hname : (fn.name == "runtime.NumGoroutine") = false) (hb : fn.body.isSome = true) (args : Array Value)
    (hop : oi.op = .call { callee := .value (.func f), args := os_, argTypes := ts }) (h : Calls P f args w fun e w' => ∃ v, e = .returned v ∧ wpList P ops Q rest (a.put N v) w') (hargs : os_.map a.eval = args := by (try simp only [List.map_toArray, List.map_cons, List.map_nil]); first | done | rfl | (simp only [List.length_drop, List.length_take]; rfl)) : wpList P ops Q (oi :: rest) a w := goesL_ N hd hg hf hname hb args hop hargs h
end
theorem put6 {w : World} {g : Nat} {t : TypeId} {u0 u1 u2 u3 u4 u5 v0 v1 v2 v3 v4 v5 : Value} (h : w.heap[g]? = some (.cells #[u0, u1, u2, u3, u4, u5] t (0, 0))) : ((((((w.setCell ⟨g, 0, none⟩ v0).setCell ⟨g, 1, none⟩ v1).setCell ⟨g, 2, none⟩ v2).setCell ⟨g, 3, none⟩ v3).setCell ⟨g, 4, none⟩ v4).setCell ⟨g, 5, none⟩ v5).heap[g]? = some (.cells #[v0, v1, v2, v3, v4, v5] t (0, 0)) := blk_put (blk_put (blk_put (blk_put (blk_put (blk_put (h) 0 _ rfl) 1 _ rfl) 2 _ rfl) 3 _ rfl) 4 _ rfl) 5 _ rfl
theorem far6 {w : World} {g g' : Nat} {t : TypeId} {cs : Array Value} {v0 v1 v2 v3 v4 v5 : Value} (hp : g ≠ g') (h : w.heap[g]? = some (.cells cs t (0, 0))) : ((((((w.setCell ⟨g', 0, none⟩ v0).setCell ⟨g', 1, none⟩ v1).setCell ⟨g', 2, none⟩ v2).setCell ⟨g', 3, none⟩ v3).setCell ⟨g', 4, none⟩ v4).setCell ⟨g', 5, none⟩ v5).heap[g]? = some (.cells cs t (0, 0)) := blk_far (blk_far (blk_far (blk_far (blk_far (blk_far (h) hp _) hp _) hp _) hp _) hp _) hp _
set_option maxHeartbeats 8000000 in
theorem put7 {w : World} {g : Nat} {t : TypeId} {u0 u1 u2 u3 u4 u5 u6 v0 v1 v2 v3 v4 v5 v6 : Value} (h : w.heap[g]? = some (.cells #[u0, u1, u2, u3, u4, u5, u6] t (0, 0))) : (((((((w.setCell ⟨g, 0, none⟩ v0).setCell ⟨g, 1, none⟩ v1).setCell ⟨g, 2, none⟩ v2).setCell ⟨g, 3, none⟩ v3).setCell ⟨g, 4, none⟩ v4).setCell ⟨g, 5, none⟩ v5).setCell ⟨g, 6, none⟩ v6).heap[g]? = some (.cells #[v0, v1, v2, v3, v4, v5, v6] t (0, 0)) := blk_put (blk_put (blk_put (blk_put (blk_put (blk_put (blk_put (h) 0 _ rfl) 1 _ rfl) 2 _ rfl) 3 _ rfl) 4 _ rfl) 5 _ rfl) 6 _ rfl
theorem far7 {w : World} {g g' : Nat} {t : TypeId} {cs : Array Value} {v0 v1 v2 v3 v4 v5 v6 : Value} (hp : g ≠ g') (h : w.heap[g]? = some (.cells cs t (0, 0))) : (((((((w.setCell ⟨g', 0, none⟩ v0).setCell ⟨g', 1, none⟩ v1).setCell ⟨g', 2, none⟩ v2).setCell ⟨g', 3, none⟩ v3).setCell ⟨g', 4, none⟩ v4).setCell ⟨g', 5, none⟩ v5).setCell ⟨g', 6, none⟩ v6).heap[g]? = some (.cells cs t (0, 0)) := blk_far (blk_far (blk_far (blk_far (blk_far (blk_far (blk_far (h) hp _) hp _) hp _) hp _) hp _) hp _) hp _
abbrev zS := @below_set
abbrev zN := @pw_below_drewN
abbrev zD := @below_drew1
abbrev zA := @below_alloc
abbrev zM := @Aside0.mk
abbrev zL := @World.block_lt_of_cell?
end Go.Proofs.YthipdgnbpdngpaaDoor
end
