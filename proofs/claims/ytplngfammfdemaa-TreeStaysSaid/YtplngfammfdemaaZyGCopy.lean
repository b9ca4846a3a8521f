-- A copy of the text YtplngfammfdemaaGCopy with what this claim does not reach left out (prune.py, a program of this project).
import Derived.Laws.CopyOwn
import Derived.Deep.RegionLaw
namespace Go.Proofs.Ytplngfammfdemaa
open Go.RowKit
variable {P : Program}
/-- All but one block is as it was. -/
def OnlyRow (w w' : World) (g : Nat) : Prop := w.heap.size ≤ w'.heap.size ∧ ∀ i, i < w.heap.size → ¬ i = g → w'.heap[i]? = w.heap[i]?
theorem OnlyRow.refl (w : World) (g : Nat) : OnlyRow w w g := ⟨Nat.le_refl _, fun _ _ _ => rfl⟩
theorem OnlyRow.trans {w w1 w2 : World} {g : Nat} (h : OnlyRow w w1 g) (k : OnlyRow w1 w2 g) : OnlyRow w w2 g := ⟨Nat.le_trans h.1 k.1, fun i hi hn => (k.2 i (Nat.lt_of_lt_of_le hi h.1) hn).trans (h.2 i hi hn)⟩
theorem OnlyRow.drew (w : World) (g : Nat) : OnlyRow w w.drew g := ⟨Nat.le_refl _, fun _ _ _ => rfl⟩
theorem OnlyRow.setRow (w : World) (g : Nat) (cs : Array Value) : OnlyRow w (w.setRow g cs) g := ⟨by simp [World.setRow], fun i _ hn => setRow_other w g i cs (fun e => hn (by omega))⟩
theorem OnlyRow.setCell (w : World) (g o : Nat) (v : Value) : OnlyRow w (w.setCell ⟨g, o, none⟩ v) g := ⟨by simp [World.setCell], fun i _ hn => Below.heap_setCell w ⟨g, o, none⟩ v i hn⟩
theorem OnlyRow.setCells (g : Nat) : ∀ (vs : List Value) (o : Nat) (w : World), OnlyRow w (w.setCells g o vs) g
  | [], _, w => OnlyRow.refl w g
  | v :: r, o, w => (OnlyRow.setCell w g o v).trans (OnlyRow.setCells g r (o + 1) _)
theorem run_copy_rowK (w : World) (dT sT ty elem : TypeId) (k : Nat) (g o dLen dCap : Nat) (a : Addr) (sLen sCap : Nat) (cur : Array Value) (t : TypeId) (cs : List Value)
    (hu : P.underlying dT = some (.slice elem)) (hs : (P.info? elem).map (·.size) = some k)
    (hg : w.heap[g]? = some (.cells cur t (0, 0))) (hn : cs.length = Nat.min sLen dLen * k)
    (hsrc : ∀ j v, cs[j]? = some v → w.cell? (a.add j) = some v) (hfit : o + cs.length ≤ cur.size) (h1 : ∀ v ∈ cs, v.oneCell' = true) :
    (Builtin.copy_ #[dT, sT] ty #[.slice (some ⟨g, o, none⟩) dLen dCap, .slice (some a) sLen sCap]).run P w =
      .ok (goInt (Nat.min sLen dLen)) (w.setRow g (cur.toList.take o ++ cs ++ cur.toList.drop (o + cs.length)).toArray) := by
  have hl := run_loadCells_list (P := P) w a cs hsrc
  have hst := run_storeCells_at P g o t cs 0 cur w hg (by simpa using hfit) h1
  cases hq : P.info? elem with
  | none => simp [hq] at hs
  | some i =>
    have hi : i.size = k := by simpa [hq] using hs
    simp [Builtin.copy_, run_underlying hu, Builtin.lenOf, Builtin.firstCells, sizeOf, typeInfo, hq, hi, ← hn, hl, hst]
theorem run_clear_rowK (w : World) (dT ty elem : TypeId) (z : Value) (g o m cap : Nat) (cur : Array Value) (t : TypeId)
    (hu : P.underlying dT = some (.slice elem)) (hz : ∀ w, (zeroValue elem).run P w = .ok z w) (hm : 0 < m)
    (hg : w.heap[g]? = some (.cells cur t (0, 0))) (hfit : o + (Builtin.zeroCells z.cells m).size ≤ cur.size) (h1 : ∀ v ∈ (Builtin.zeroCells z.cells m).toList, v.oneCell' = true) :
    (Builtin.clear_ #[dT] ty #[.slice (some ⟨g, o, none⟩) m cap]).run P w =
      .ok (.tuple #[]) (w.setRow g (cur.toList.take o ++ (Builtin.zeroCells z.cells m).toList ++ cur.toList.drop (o + (Builtin.zeroCells z.cells m).size)).toArray) := by
  obtain ⟨m, rfl⟩ : ∃ j, m = j + 1 := ⟨m - 1, by omega⟩
  have hst := run_storeCells_at P g o t (Builtin.zeroCells z.cells (m + 1)).toList 0 cur w hg (by simpa using hfit) h1
  simp only [Nat.add_zero, Array.length_toList] at hst
  simp [Builtin.clear_, run_underlying hu, hz, hst]
/-- clear, the row behind it told as a splice; the world under a name. -/
theorem run_clear_splice (w : World) (dT ty elem : TypeId) (z : Value) (g o m cap : Nat) (cur : List Value) (t : TypeId) (zs : List Value)
    (hu : P.underlying dT = some (.slice elem)) (hz : ∀ w, (zeroValue elem).run P w = .ok z w) (hm : 0 < m)
    (hg : w.heap[g]? = some (.cells cur.toArray t (0, 0))) (hzs : (Builtin.zeroCells z.cells m).toList = zs) (hfit : o + zs.length ≤ cur.length) (h1 : ∀ v ∈ zs, v.oneCell' = true) (B : Nat) (w0 : World) (hb : Below B w0 w) (hBg : B ≤ g) :
    ∃ w', (Builtin.clear_ #[dT] ty #[.slice (some ⟨g, o, none⟩) m cap]).run P w = .ok (.tuple #[]) w' ∧ w'.heap[g]? = some (.cells (splice cur o zs).toArray t (0, 0)) ∧ Below B w0 w' ∧ OnlyRow w w' g := by
  subst hzs
  refine ⟨_, run_clear_rowK w dT ty elem z g o m cap cur.toArray t hu hz hm hg (by simpa using hfit) h1, ?_, below_setRow hb hBg _, OnlyRow.setRow _ _ _⟩
  simpa [splice] using setRow_heap w g _ _ t _ hg
/-- copy, the same way. -/
theorem run_copy_splice (w : World) (dT sT ty elem : TypeId) (k : Nat) (g o dLen dCap : Nat) (a : Addr) (sLen sCap : Nat) (cur : List Value) (t : TypeId) (cs : List Value)
    (hu : P.underlying dT = some (.slice elem)) (hs : (P.info? elem).map (·.size) = some k)
    (hg : w.heap[g]? = some (.cells cur.toArray t (0, 0))) (hn : cs.length = Nat.min sLen dLen * k)
    (hsrc : ∀ j v, cs[j]? = some v → w.cell? (a.add j) = some v) (hfit : o + cs.length ≤ cur.length) (h1 : ∀ v ∈ cs, v.oneCell' = true) (B : Nat) (w0 : World) (hb : Below B w0 w) (hBg : B ≤ g) :
    ∃ w', (Builtin.copy_ #[dT, sT] ty #[.slice (some ⟨g, o, none⟩) dLen dCap, .slice (some a) sLen sCap]).run P w = .ok (goInt (Nat.min sLen dLen)) w' ∧ w'.heap[g]? = some (.cells (splice cur o cs).toArray t (0, 0)) ∧ Below B w0 w' ∧ OnlyRow w w' g := by
  refine ⟨_, run_copy_rowK w dT sT ty elem k g o dLen dCap a sLen sCap cur.toArray t cs hu hs hg hn hsrc (by simpa using hfit) h1, ?_, below_setRow hb hBg _, OnlyRow.setRow _ _ _⟩
  simpa [splice] using setRow_heap w g _ _ t _ hg
end Go.Proofs.Ytplngfammfdemaa
