-- A copy of the text YtplngfammfdemaaGDelete with what this claim does not reach left out (prune.py, a program of this project).
import Derived.Test.YtplngfammfdemaaZtGCopy
import Derived.Test.YtplngfammfdemaaZtPx0
import Derived.Deep.RegionLaw
namespace Go.Proofs.Ytplngfammfdemaa
open Go.RowKit Go.Proofs.YtplngfammfdemaaW.PrintWords Go.Proofs.YtplngfammfdemaaW.PrintLast Go.Proofs.YtplngfammfdemaaW.PrintMore P
set_option linter.unusedVariables false
set_option linter.unusedSimpArgs false
def seatL (x : S48) : List Value := [.int .i64 x.f0, .int .i64 x.f1, .int .i64 x.f2, .int .i64 x.f3]
def flatS (l : List S48) : List Value := l.flatMap seatL
theorem flatS_length (l : List S48) : (flatS l).length = l.length * 4 := by
  induction l with
  | nil => rfl
  | cons x l ih => unfold flatS at *; rw [List.flatMap_cons, List.length_append, ih]; simp [seatL]; omega
theorem flatS_append (a b : List S48) : flatS (a ++ b) = flatS a ++ flatS b := by unfold flatS; rw [List.flatMap_append]
theorem flatS_take (l : List S48) (i : Nat) : (flatS l).take (i * 4) = flatS (l.take i) := by
  by_cases h : i ≤ l.length
  · have e : flatS l = flatS (l.take i) ++ flatS (l.drop i) := by rw [← flatS_append, List.take_append_drop]
    rw [e, List.take_left' (by rw [flatS_length, List.length_take]; omega)]
  · rw [List.take_of_length_le (by rw [flatS_length]; omega), List.take_of_length_le (by omega)]
theorem flatS_drop (l : List S48) (i : Nat) : (flatS l).drop (i * 4) = flatS (l.drop i) := by
  by_cases h : i ≤ l.length
  · have e : flatS l = flatS (l.take i) ++ flatS (l.drop i) := by rw [← flatS_append, List.take_append_drop]
    rw [e, List.drop_left' (by rw [flatS_length, List.length_take]; omega)]
  · rw [List.drop_of_length_le (by rw [flatS_length]; omega), List.drop_of_length_le (by omega)]; rfl
theorem reps_flat {w : World} {base : Nat} {ok : Nat → Prop} {l : List S48} {cs : List Value} (h : Reps (k48.M w base ok) 4 l cs) : cs = flatS l := by
  obtain ⟨h1, h2⟩ := h
  have h3 : (flatS l).length = cs.length := by rw [flatS_length, h1]
  induction l generalizing cs with
  | nil => exact List.eq_nil_of_length_eq_zero (by simpa using h1)
  | cons x l ih =>
    have hx := k48_openM (h2 0 x rfl)
    rw [Nat.zero_mul, List.drop_zero] at hx
    have hr := ih (cs := cs.drop 4) (by rw [List.length_drop, h1]; simp; omega) (fun j p hj => by
      have := h2 (j + 1) p hj
      rw [List.drop_drop, show 4 + j * 4 = (j + 1) * 4 by omega]; exact this) (by rw [flatS_length, List.length_drop, h1]; simp; omega)
    rw [← List.take_append_drop 4 cs, hx, hr]
    rfl
theorem flat_reps (w : World) (base : Nat) (ok : Nat → Prop) (l : List S48) : Reps (k48.M w base ok) 4 l (flatS l) := by
  refine ⟨flatS_length l, fun j p hj => ?_⟩
  rw [flatS_drop]
  have hjl : j < l.length := (List.getElem?_eq_some_iff.1 hj).1
  have hp : l[j] = p := (List.getElem?_eq_some_iff.1 hj).2
  rw [List.drop_eq_getElem_cons hjl, hp]
  exact k48_mkM w base ok p
/-- A row of seats of the call's own, by its block. -/
theorem R_openS {w : World} {base : Nat} {ok : Nat → Prop} {A : Option Addr} {c : Nat} {l : List S48} (h : Kd.R k48 48 w base ok (.slice A l.length c) l) (h0 : 0 < l.length) :
    ∃ g cur, A = some ⟨g, 0, none⟩ ∧ base ≤ g ∧ w.heap[g]? = some (.cells cur 48 (0, 0)) ∧ l.length ≤ c ∧ c ≤ maxLen ∧ cur.size = c * 4 ∧ cur.toList.take (l.length * 4) = flatS l := by
  obtain ⟨h1, inner, ⟨h2, h3⟩, h4⟩ := h
  have hi := reps_flat h4
  subst hi
  rcases h3 with ⟨h3, h5⟩ | ⟨g, cap, cur, h3, hg, hh, hc, hm, hs, ht⟩
  · omega
  · simp only [Value.slice.injEq] at h3
    obtain ⟨rfl, _, rfl⟩ := h3
    exact ⟨g, cur, rfl, hg, hh, hc, hm, hs, ht⟩
theorem R_mkS {w : World} {base g c : Nat} {cur : Array Value} {l : List S48} (hg : base ≤ g) (hh : w.heap[g]? = some (.cells cur 48 (0, 0))) (hc : l.length ≤ c) (hm : c ≤ maxLen) (hs : cur.size = c * 4) (ht : cur.toList.take (l.length * 4) = flatS l) :
    Kd.R k48 48 w base (fun k => k = g) (.slice (some ⟨g, 0, none⟩) l.length c) l :=
  ⟨fun k hk => by simpa [Value.ownBlock] using hk.symm, flatS l, ⟨flatS_length l, .inr ⟨g, c, cur, rfl, hg, hh, hc, hm, hs, ht⟩⟩, flat_reps _ _ _ _⟩
theorem addr_add (g o j : Nat) : (⟨g, o, none⟩ : Addr).add j = ⟨g, o + j, none⟩ := by unfold Addr.add; split <;> simp_all
theorem info48 : (Try.prog.info? 48).map (fun i => (i.zero, i.size, i.bytes)) = some (some (.agg #[.int .i64 0, .int .i64 0, .int .i64 0, .int .i64 0]), 4, 32) := by kernel_rfl
theorem one_flat (l : List S48) : ∀ v ∈ flatS l, v.oneCell' = true := by
  intro v hv
  unfold flatS at hv
  rw [List.mem_flatMap] at hv
  obtain ⟨x, _, hx⟩ := hv
  simp only [seatL, List.mem_cons, List.not_mem_nil, or_false] at hx
  rcases hx with rfl | rfl | rfl | rfl <;> rfl
def api_Seat_71.f (l : List S48) (i j : Int) : Option (List S48) := if j = i + 1 ∧ 0 ≤ i ∧ i < l.length ∧ l.length < 1000000000000000000 then some (l.eraseIdx i.toNat) else none
end Go.Proofs.Ytplngfammfdemaa
