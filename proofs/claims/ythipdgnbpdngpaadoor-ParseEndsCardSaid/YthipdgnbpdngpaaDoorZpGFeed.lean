-- A copy of the text YthipdgnbpdngpaaDoorGFeed with what this claim does not reach left out (prune.py, a program of this project).
import Derived.Test.YthipdgnbpdngpaaDoorZpGRdH
namespace Go.Proofs.YthipdgnbpdngpaaDoor
open Go.RowKit Go.Proofs.YthipdgnbpdngpaaDoorW.PrintWords S
set_option linter.unusedVariables false
set_option linter.unusedSimpArgs false
theorem empty_iff (s : ByteArray) : emptyB s = true ↔ s = ⟨#[]⟩ := by
  unfold emptyB
  rw [Lib.toList_data]
  constructor
  · intro h
    exact size_nil s (by
      have h2 : s.data.toList = [] := List.isEmpty_iff.1 h
      rw [← len_size, h2]; rfl)
  · intro h
    rw [h]; rfl
theorem odd_iff (l : List Int) : l.any oddB = false ↔ ∀ x ∈ l, 0 ≤ x ∧ x ≤ 9999 := by
  rw [List.any_eq_false]
  constructor
  · intro h x hx
    have h2 := h x hx
    unfold oddB at h2
    have h3 : inB x 0 9999 = true := by
      cases h9 : inB x 0 9999 with
      | true => rfl
      | false => rw [h9] at h2; exact absurd rfl h2
    exact (inB_iff _ _ _).1 h3
  · intro h x hx
    unfold oddB
    rw [(inB_iff x 0 9999).2 (h x hx)]
    simp
theorem right_iff (p : S52) : rightB p = true ↔ rightP p := by
  unfold rightB
  rw [Bool.and_eq_true, Bool.and_eq_true, Bool.and_eq_true, Bool.and_eq_true, inB_iff]
  constructor
  · rintro ⟨⟨⟨⟨⟨h0, h8⟩, hp⟩, ho⟩, hc⟩, hi⟩
    refine ⟨h0, h8, fun h => ?_, fun h => ?_, fun h => ?_, fun h => ?_, fun h => ?_, fun h h' => ?_, fun h => ?_, fun h h' => ?_⟩
    · unfold pendB at hp; rw [if_pos h, decide_eq_true_eq] at hp; exact hp
    · unfold pendB at hp; rw [if_neg h] at hp; exact (empty_iff _).1 hp
    · unfold oscB at ho; rw [if_pos h, decide_eq_true_eq] at ho; exact ho
    · unfold oscB at ho; rw [if_neg h] at ho; exact (empty_iff _).1 ho
    · unfold csiB at hc
      rw [if_pos h, Bool.and_eq_true, Bool.and_eq_true, Bool.or_eq_true, decide_eq_true_eq, beq_iff_eq, inB_iff, Bool.not_eq_true'] at hc
      exact ⟨hc.1.1, hc.1.2, (odd_iff _).1 hc.2⟩
    · unfold csiB at hc
      rw [if_neg (fun e => e.elim h h'), Bool.and_eq_true, beq_iff_eq, decide_eq_true_eq] at hc
      exact ⟨hc.1, List.eq_nil_of_length_eq_zero hc.2⟩
    · unfold interB at hi; rw [if_pos h, inB_iff] at hi; exact hi
    · unfold interB at hi; rw [if_neg (fun e => e.elim h h'), beq_iff_eq] at hi; exact hi
  · intro h
    refine ⟨⟨⟨⟨⟨h.s0, h.s8⟩, ?_⟩, ?_⟩, ?_⟩, ?_⟩
    · unfold pendB
      split
      · rename_i h0; rw [decide_eq_true_eq]; exact h.pn0 h0
      · rename_i h0; exact (empty_iff _).2 (h.pn1 h0)
    · unfold oscB
      split
      · rename_i h0; rw [decide_eq_true_eq]; exact h.os0 h0
      · rename_i h0; exact (empty_iff _).2 (h.os1 h0)
    · unfold csiB
      split
      · rename_i h0
        obtain ⟨a, b, c⟩ := h.cs0 h0
        rw [Bool.and_eq_true, Bool.and_eq_true, Bool.or_eq_true, decide_eq_true_eq, beq_iff_eq, inB_iff, Bool.not_eq_true']
        exact ⟨⟨a, b⟩, (odd_iff _).2 c⟩
      · rename_i h0
        obtain ⟨a, b⟩ := h.cs1 (fun e => h0 (.inl e)) (fun e => h0 (.inr e))
        rw [Bool.and_eq_true, beq_iff_eq, decide_eq_true_eq]
        exact ⟨a, by rw [b]; rfl⟩
    · unfold interB
      split
      · rename_i h0; rw [inB_iff]; exact h.it0 h0
      · rename_i h0; rw [beq_iff_eq]; exact h.it1 (fun e => h0 (.inl e)) (fun e => h0 (.inr e))
/-- What parse.Feed makes of a parser that may be. -/
def feedR (p : S52) (s : ByteArray) : S52 × List S62 := runT (takeR (pendR 4)) (p, []) s.data.toList
def feedT (q : S52 × List S62) (e : Int) : Int × Int × List Int × Int × ByteArray × ByteArray × List S62 × Int := (q.1.f0, q.1.f1, q.1.f2, q.1.f3, q.1.f4, q.1.f5, q.2, e)
def parse_Feed.f (a0_0 a0_1 : Int) (l0_2 : List Int) (a0_3 : Int) (a0_4 a0_5 a1 : ByteArray) : Option (Int × Int × List Int × Int × ByteArray × ByteArray × List S62 × Int) :=
  if a1.size ≤ 1000000 then (if rightB ⟨a0_0, a0_1, l0_2, a0_3, a0_4, a0_5⟩ = true then some (feedT (feedR ⟨a0_0, a0_1, l0_2, a0_3, a0_4, a0_5⟩ a1) 0) else some (feedT (toF 0, []) 1)) else none
theorem parse_Feed.calls (a0_0 a0_1 : Int) (P0_2_ : Nat → Prop) (A0_2 : Option Addr) (c0_2 : Nat) (l0_2 : List Int) (a0_3 : Int) (a0_4 a0_5 a1 : ByteArray) (r1 r2 : Int) (r3 : List Int) (r4 : Int) (r5 r6 : ByteArray) (r7 : List S62) (r8 : Int) (w : World)
    (hs0_2 : Kd.V (Kd.int .i64) 3 w w.heap.size (fun k_ => P0_2_ k_) (.slice A0_2 l0_2.length c0_2) l0_2) (h : parse_Feed.f a0_0 a0_1 l0_2 a0_3 a0_4 a0_5 a1 = some (r1, r2, r3, r4, r5, r6, r7, r8)) (hT : TabsAt w := by first | with_reducible assumption | exact tabs_here (by with_reducible assumption) (by repeat (with_reducible first | assumption | apply below_alloc | apply pw_below_drewN | apply below_drew1 | (refine Below.setCell ?_ ?_ _) | exact Aside0.out (by assumption)))) :
    Calls Tryd.prog 32 #[.agg #[.int .i64 a0_0, .int .i64 a0_1, .slice A0_2 l0_2.length c0_2, .int .i64 a0_3, .string a0_4, .string a0_5], .string a1] w fun e w' => ∃ v2_ v6_, e = .returned (.tuple #[.agg #[.int .i64 r1, .int .i64 r2, v2_, .int .i64 r4, .string r5, .string r6], v6_, .int .i64 r8]) ∧
      Kd.V (Kd.int .i64) 3 w' w.heap.size (fun k_ => (P0_2_ k_ ∨ w.heap.size ≤ k_) ∧ some k_ ≠ (v6_ : Value).ownBlock) v2_ r3 ∧ Kd.N k62 62 w' w.heap.size (fun k_ => P0_2_ k_ ∨ w.heap.size ≤ k_) v6_ r7 ∧ Below w.heap.size w w' := by
  unfold parse_Feed.f at h
  by_cases ha : a1.size ≤ 1000000
  · rw [if_pos ha] at h
    cases hR : rightB ⟨a0_0, a0_1, l0_2, a0_3, a0_4, a0_5⟩ with
    | true =>
      rw [if_pos hR] at h
      have h2 := Option.some.inj h
      unfold feedT at h2
      simp only [Prod.mk.injEq] at h2
      obtain ⟨rfl, rfl, rfl, rfl, rfl, rfl, rfl, rfl⟩ := h2
      exact feed_right ⟨a0_0, a0_1, l0_2, a0_3, a0_4, a0_5⟩ a1 A0_2 c0_2 P0_2_ w hs0_2 hT hR ((right_iff _).1 hR) ha
    | false =>
      rw [if_neg (by rw [hR]; exact Bool.false_ne_true)] at h
      have h2 := Option.some.inj h
      unfold feedT toF at h2
      simp only [Prod.mk.injEq] at h2
      obtain ⟨rfl, rfl, rfl, rfl, rfl, rfl, rfl, rfl⟩ := h2
      refine (feed_wrong ⟨a0_0, a0_1, l0_2, a0_3, a0_4, a0_5⟩ a1 A0_2 c0_2 P0_2_ w hs0_2 hT hR).mono ?_
      rintro e w' ⟨rfl, hb⟩
      exact ⟨_, _, rfl, Kd.V_nil _ _ _ _ _, Kd.N_nil _ _ _ _ _, hb⟩
  · rw [if_neg ha] at h
    cases h
end Go.Proofs.YthipdgnbpdngpaaDoor
