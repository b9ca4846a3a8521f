-- A copy of the text YtplngfammfdemaaGTreeIn with what this claim does not reach left out (prune.py, a program of this project).
import Derived.Test.YtplngfammfdemaaZyGCont
import Derived.Test.YtplngfammfdemaaZyGOpen
import Derived.Lib.SmallJoins
namespace Go.Proofs.Ytplngfammfdemaa
open Go.RowKit Go.Proofs.YtplngfammfdemaaW.PrintWords Go.Proofs.YtplngfammfdemaaW.PrintLast Go.Proofs.YtplngfammfdemaaW.PrintMore Q
open Go.ChangeShapes Go.WideShapes Go.Deep Go.Joins
set_option linter.unusedVariables false
section
variable {H : Type} {enc : TypeId × Value → H} {w : World} {base : Nat} {spare : Nat → Bool} {held : Bool}
theorem four_cells {cs : List Value} (h : cs.length = 4) : ∃ c0 c1 c2 c3, cs = [c0, c1, c2, c3] := by
  match cs, h with
  | [c0, c1, c2, c3], _ => exact ⟨c0, c1, c2, c3, rfl⟩
theorem read_tree : ∀ (fuel : Nat) (cs : List Value) (x : DataW H × List MemPlace), DataW.trod enc Try.prog w base spare held fuel 31 cs = some x → ∃ t : S31, k31.K w t cs := by
  intro fuel
  induction fuel using Nat.strongRecOn with
  | ind fuel ih =>
    intro cs x h
    obtain ⟨xs, n, rfl, rfl, hl, hlen, hf⟩ := DataW.trod_struct Try.underlying31 h
    obtain ⟨c0, c1, c2, c3, rfl⟩ := four_cells (hl.trans (by kernel_rfl))
    have e0 : DataW.trod enc Try.prog w base spare held n 3 (List.take (Try.prog.cellsOf 3) [c0, c1, c2, c3]) = xs[0]? := hf 0 _ rfl
    have e1 : DataW.trod enc Try.prog w base spare held n 3 (List.take (Try.prog.cellsOf 3) [c1, c2, c3]) = xs[1]? := hf 1 _ rfl
    have e2 : DataW.trod enc Try.prog w base spare held n 3 (List.take (Try.prog.cellsOf 3) [c2, c3]) = xs[2]? := hf 2 _ rfl
    have e3 : DataW.trod enc Try.prog w base spare held n 29 (List.take (Try.prog.cellsOf 29) [c3]) = xs[3]? := hf 3 _ rfl
    have k3 : Try.prog.cellsOf 3 = 1 := by kernel_rfl
    have k29 : Try.prog.cellsOf 29 = 1 := by kernel_rfl
    rw [k3] at e0 e1 e2
    rw [k29] at e3
    simp only [List.take] at e0 e1 e2 e3
    have hx : ∀ i, i < 4 → ∃ y, xs[i]? = some y := fun i hi => ⟨_, List.getElem?_eq_getElem (by rw [hlen]; exact hi)⟩
    obtain ⟨y0, hy0⟩ := hx 0 (by omega)
    obtain ⟨y1, hy1⟩ := hx 1 (by omega)
    obtain ⟨y2, hy2⟩ := hx 2 (by omega)
    obtain ⟨y3, hy3⟩ := hx 3 (by omega)
    rw [hy0] at e0
    rw [hy1] at e1
    rw [hy2] at e2
    rw [hy3] at e3
    obtain ⟨f0, q0, _, _⟩ := DataW.trod_int Try.underlying3 e0
    obtain ⟨f1, q1, _, _⟩ := DataW.trod_int Try.underlying3 e1
    obtain ⟨f2, q2, _, _⟩ := DataW.trod_int Try.underlying3 e2
    obtain rfl : c0 = .int .i64 f0 := by simpa using q0
    obtain rfl : c1 = .int .i64 f1 := by simpa using q1
    obtain rfl : c2 = .int .i64 f2 := by simpa using q2
    rcases DataW.trod_slice Try.underlying29 e3 with ⟨hcs, _⟩ | ⟨a, len, cap, elems, rest, m, rfl, hcs, _, hb, hle, hm, hlen2, hel, _, _⟩
    · obtain rfl : c3 = .slice none 0 0 := by simpa using hcs
      exact ⟨⟨f0, f1, f2, []⟩, k31_mk w ⟨f0, f1, f2, []⟩ (Nat.le_refl 0) (Kd.C_nil _ _)⟩
    · obtain rfl : c3 = .slice (some a) len cap := by simpa using hcs
      have k31c : Try.prog.cellsOf 31 = 4 := by kernel_rfl
      obtain ⟨l, h1, h2⟩ := rows_of (R := k31.K w) 4 (w := w) (a := a) (len := len) (by unfold maxLen at hm; omega) (fun i hi => by
        have hi2 := hel i hi
        rw [k31c] at hi2
        have : ∃ y, elems[i]? = some y := ⟨_, List.getElem?_eq_getElem (by omega)⟩
        obtain ⟨y, hy⟩ := this
        rw [hy] at hi2
        obtain ⟨cs', hc, ht⟩ := Option.bind_eq_some_iff.1 hi2
        obtain ⟨t, hK⟩ := ih m (by omega) cs' y ht
        obtain ⟨_, hcl, hat⟩ := World.cells?_some hc
        refine ⟨t, cs', by omega, hK, fun j u hj => ?_⟩
        obtain ⟨hjl, rfl⟩ := List.getElem?_eq_some_iff.1 hj
        rw [← Go.Deep.add_add]
        exact (hat j (by omega)).trans (List.getElem?_eq_getElem hjl))
      subst h1
      exact ⟨⟨f0, f1, f2, l⟩, k31_mk w ⟨f0, f1, f2, l⟩ hle h2⟩
set_option maxRecDepth 100000 in
theorem tree_in {v : Value} {d : DataW H} {p : List MemPlace} {r : Reach} {b : Nat} (hv : Value.okWide Try.prog w r b 31 v) (h : DataW.Trod enc Try.prog w base spare held 31 v d p) :
    ∃ (t : S31) (A : Option Addr) (c : Nat), v = .agg #[.int .i64 t.f0, .int .i64 t.f1, .int .i64 t.f2, .slice A t.f3.length c] ∧ t.f3.length ≤ c ∧ Kd.C k31 w A t.f3.length t.f3 := by
  obtain ⟨cs, rfl, hsz⟩ := okWide_struct Try.underlying31 hv
  obtain ⟨fuel, hf⟩ := h
  obtain ⟨t, hK⟩ := read_tree fuel _ _ hf
  obtain ⟨A, c, hcs, hl, hC⟩ := k31_open hK
  refine ⟨t, A, c, ?_, hl, hC⟩
  obtain ⟨l⟩ := cs
  simp [Value.cells] at hcs
  rw [hcs]
end
end Go.Proofs.Ytplngfammfdemaa
