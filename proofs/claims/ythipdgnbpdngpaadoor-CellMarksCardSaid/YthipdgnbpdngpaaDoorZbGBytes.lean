-- A copy of the text YthipdgnbpdngpaaDoorGBytes with what this claim does not reach left out (prune.py, a program of this project).
import Derived.Test.YthipdgnbpdngpaaDoorZbPx0
import Derived.Lib.Hide
namespace Go.Proofs.YthipdgnbpdngpaaDoor
open Go.RowKit Go.Lib Go.Proofs.YthipdgnbpdngpaaDoorW.PrintWords Go.Proofs.YthipdgnbpdngpaaDoorW.PrintLast
/-- The slice v of bytes xs lies at the head of a row of its own, in a block from base on, whose cells may be written. -/
def OwnM (w : World) (base : Nat) (e : TypeId) (v : Value) (xs : List Int) : Prop :=
  ∃ (g cap : Nat) (cur : Array Value) (fz : Nat × Nat), v = .slice (some ⟨g, 0, none⟩) xs.length cap ∧ base ≤ g ∧ w.heap[g]? = some (.cells cur e fz) ∧ (fz = (0, 0) ∨ cur.size ≤ fz.1) ∧ xs.length ≤ cap ∧ cap ≤ maxLen ∧ cur.size = cap ∧ ∀ j, j < xs.length → cur[j]? = some (.int .u8 (xs.getD j 0))
theorem OwnM.kept {w w' : World} {base : Nat} {e : TypeId} {v : Value} {xs : List Int} (h : OwnM w base e v xs) {row : Option Nat} (hg : w.grownBy w' row) (hne : v.ownBlock ≠ row) : OwnM w' base e v xs := by
  obtain ⟨g, cap, cur, fz, rfl, hb, hgg, r⟩ := h
  refine ⟨g, cap, cur, fz, rfl, hb, ?_, r⟩
  rw [hg.block g (Array.getElem?_eq_some_iff.1 hgg).1 (by simpa [Value.ownBlock] using hne)]
  exact hgg
theorem OwnM.below {w w' : World} {base : Nat} {e : TypeId} {v : Value} {xs : List Int} (h : OwnM w base e v xs) (hb : Below w.heap.size w w') : OwnM w' base e v xs := by
  obtain ⟨g, cap, cur, fz, rfl, hbb, hgg, r⟩ := h
  exact ⟨g, cap, cur, fz, rfl, hbb, (hb.block g (Array.getElem?_eq_some_iff.1 hgg).1).trans hgg, r⟩
theorem OwnM.alloc {w : World} {base : Nat} {e : TypeId} {v : Value} {xs : List Int} (h : OwnM w base e v xs) (o : Obj) : OwnM (w.alloc o) base e v xs := h.below (Below.alloc (Below.refl _ _) (Nat.le_refl _) o)
theorem OwnM.slice {w : World} {base : Nat} {e : TypeId} {v : Value} {xs : List Int} (h : OwnM w base e v xs) : ∃ g cap, v = .slice (some ⟨g, 0, none⟩) xs.length cap := by
  obtain ⟨g, cap, cur, fz, rfl, _⟩ := h
  exact ⟨g, cap, rfl⟩
theorem OwnM.string {P : Program} {w : World} {base : Nat} {e' src dst e : TypeId} {v : Value} {xs : List Int} (hs : P.underlying src = some (.slice e)) (he : P.underlying e = some (.int .u8)) (hd : P.underlying dst = some .string)
    (h : OwnM w base e' v xs) : (convert src dst v).run P w = .ok (.string (strOfNums xs)) w := by
  obtain ⟨g, cap, cur, fz, rfl, hb, hg, _, _, _, hc, hx⟩ := h
  refine run_convert_bytes_arg w src e hs he g 0 xs.length cap xs rfl (fun i hi => ?_) dst hd
  rw [Nat.zero_add, cell_of_row w g i cur e' fz hg]
  exact hx i hi
end Go.Proofs.YthipdgnbpdngpaaDoor
