-- A copy of the text YtplngfammfdemaaGOpen with what this claim does not reach left out (prune.py, a program of this project).
import Derived.Test.YtplngfammfdemaaZsPx0
import Derived.Deep.Slices
import Derived.Deep.Fields
import Derived.ChangeSame
namespace Go.Proofs.Ytplngfammfdemaa
open Go.RowKit Go.Proofs.YtplngfammfdemaaW.PrintWords Go.Proofs.YtplngfammfdemaaW.PrintLast Go.Proofs.YtplngfammfdemaaW.PrintMore P
open Go.ChangeShapes Go.WideShapes Go.Deep
set_option linter.unusedVariables false
section
variable {H : Type} {enc : TypeId × Value → H} {P : Program} {w : World} {base : Nat} {spare : Nat → Bool} {held : Bool}
theorem open_slice_fields {t e : TypeId} {fs : Array Field} {fuel : Nat} {cs : List Value} {x : DataW H × List MemPlace} (ht : P.underlying t = some (.slice e)) (he : P.underlying e = some (.struct fs))
    (hone : oneCellFields P fs = true) (hC : P.cellsOf e = fs.size) (h : DataW.trod enc P w base spare held fuel t cs = some x) :
    (cs = [.slice none 0 0] ∧ x = (.nil, [])) ∨
    ∃ (a : Addr) (len cap : Nat), cs = [.slice (some a) len cap] ∧ len ≤ cap ∧ cap ≤ maxLen ∧
      ∀ i, i < len → ∃ (n : Nat),
        ∀ (j : Nat) (f : Field), fs[j]? = some f → ∃ (v : Value) (y : DataW H × List MemPlace), w.cell? (a.add (i * fs.size + j)) = some v ∧ DataW.trod enc P w base spare held n f.type [v] = some y := by
  rcases open_slice ht h with h0 | ⟨a, len, cap, m, n, D, Pl, hcs, hb, hl, hm, hmm, hx, hi⟩
  · exact .inl h0
  · refine .inr ⟨a, len, cap, hcs, hl, hm, fun i him => ?_⟩
    obtain ⟨cs', hc, ht'⟩ := hi i (by rw [hmm]; split <;> omega)
    rw [hC] at hc
    obtain ⟨ys, n', hn', hy, hlen, hyl, hf⟩ := DataW.trod_struct he ht'
    obtain ⟨_, hcl, hat⟩ := World.cells?_some hc
    refine ⟨n', fun j f hj => ?_⟩
    obtain ⟨ho, hk⟩ := hone_of hone j f hj
    have hjl : j < fs.size := (Array.getElem?_eq_some_iff.1 hj).1
    have hcell := hat j hjl
    have hv : cs'[j]? = some (cs'[j]'(by omega)) := List.getElem?_eq_getElem (by omega)
    have h1 := hf j f hj
    rw [ho, hk] at h1
    have hone' : (cs'.drop j).take 1 = [cs'[j]'(by omega)] := by
      rw [List.drop_eq_getElem_cons (by omega)]
      rfl
    rw [hone'] at h1
    have hys : ys[j]? = some (ys[j]'(by omega)) := List.getElem?_eq_getElem (by omega)
    refine ⟨_, _, ?_, h1.trans hys⟩
    rw [← Go.Deep.add_add, hcell, hv]
end
/-- Rows that are read, cell by cell. -/
theorem rows_of {α : Type} {R : α → List Value → Prop} (size : Nat) {w : World} {a : Addr} {len : Nat} (hm : len ≤ 9223372036854775807) (h : ∀ i, i < len → ∃ (x : α) (c : List Value), c.length = size ∧ R x c ∧ ∀ j u, c[j]? = some u → w.cell? (a.add (i * size + j)) = some u) :
    ∃ l : List α, l.length = len ∧ ReadsRow R size w (some a) l.length l := by
  have hl : ∀ m, m ≤ len → ∃ l : List α, l.length = m ∧ ∀ j p, l[j]? = some p → ∃ c, c.length = size ∧ R p c ∧ ∀ i u, c[i]? = some u → w.cell? (a.add (j * size + i)) = some u := by
    intro m
    induction m with
    | zero => exact fun _ => ⟨[], rfl, fun j p h => by simp at h⟩
    | succ m ih =>
      intro hle
      obtain ⟨l, h1, h2⟩ := ih (by omega)
      obtain ⟨x, c, h3, h4, h5⟩ := h m (by omega)
      refine ⟨l ++ [x], by simp [h1], fun j p hj => ?_⟩
      by_cases hjl : j < l.length
      · rw [List.getElem?_append_left hjl] at hj; exact h2 j p hj
      · have hjm : j = m := by
          have := (List.getElem?_eq_some_iff.1 hj).1
          rw [List.length_append, List.length_singleton] at this
          omega
        subst hjm
        rw [List.getElem?_append_right (by omega), h1, Nat.sub_self] at hj
        have : x = p := by simpa using hj
        subst this
        exact ⟨c, h3, h4, h5⟩
  obtain ⟨l, h1, h2⟩ := hl len (Nat.le_refl _)
  exact ⟨l, h1, rfl, by omega, fun _ => ⟨a, rfl, h2⟩⟩
theorem read_seats {H : Type} {enc : TypeId × Value → H} {W : World} {base : Nat} {spare : Nat → Bool} {held : Bool} {a : Option Addr} {len cap : Nat} {d : DataW H} {p : List MemPlace} (h : DataW.Trod enc Try.prog W base spare held 45 (.slice a len cap) d p) : ∃ l : List S48, l.length = len ∧ len ≤ cap ∧ Kd.C k48 W a l.length l := by
  obtain ⟨fuel, hf⟩ := h
  rcases open_slice_fields Try.underlying45 Try.underlying48 (by kernel_rfl) (by kernel_rfl) hf with ⟨hcs, _⟩ | ⟨x, l, c, hcs, hl, hm, hcell⟩
  · simp [Value.cells] at hcs
    obtain ⟨rfl, rfl, rfl⟩ := hcs
    exact ⟨[], rfl, Nat.le_refl _, rfl, by simp, fun h => absurd h (by decide)⟩
  · simp [Value.cells] at hcs
    obtain ⟨rfl, rfl, rfl⟩ := hcs
    obtain ⟨s, h1, h2⟩ := rows_of (R := k48.K W) 4 (w := W) (a := x) (len := len) (by unfold maxLen at hm; omega) (fun i hi => by
      obtain ⟨n, hf⟩ := hcell i hi
      obtain ⟨v0, y0, c0, t0⟩ := hf 0 _ rfl
      obtain ⟨v1, y1, c1, t1⟩ := hf 1 _ rfl
      obtain ⟨v2, y2, c2, t2⟩ := hf 2 _ rfl
      obtain ⟨v3, y3, c3, t3⟩ := hf 3 _ rfl
      obtain ⟨f0, e0, _, _⟩ := DataW.trod_int Try.underlying3 t0
      obtain ⟨f1, e1, _, _⟩ := DataW.trod_int Try.underlying3 t1
      obtain ⟨f2, e2, _, _⟩ := DataW.trod_int Try.underlying3 t2
      obtain ⟨f3, e3, _, _⟩ := DataW.trod_int Try.underlying3 t3
      obtain rfl : v0 = .int .i64 f0 := by simpa using e0
      obtain rfl : v1 = .int .i64 f1 := by simpa using e1
      obtain rfl : v2 = .int .i64 f2 := by simpa using e2
      obtain rfl : v3 = .int .i64 f3 := by simpa using e3
      refine ⟨⟨f0, f1, f2, f3⟩, [.int .i64 f0, .int .i64 f1, .int .i64 f2, .int .i64 f3], rfl, k48_mk W ⟨f0, f1, f2, f3⟩, fun j u hj => ?_⟩
      match j, hj with
      | 0, hj => rw [← Option.some.inj hj]; exact c0
      | 1, hj => rw [← Option.some.inj hj]; exact c1
      | 2, hj => rw [← Option.some.inj hj]; exact c2
      | 3, hj => rw [← Option.some.inj hj]; exact c3
      | j + 4, hj => simp at hj)
    exact ⟨s, h1, hl, h2⟩
end Go.Proofs.Ytplngfammfdemaa
