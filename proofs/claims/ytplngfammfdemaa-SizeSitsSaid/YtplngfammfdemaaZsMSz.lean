-- A copy of the text YtplngfammfdemaaMSz with what this claim does not reach left out (prune.py, a program of this project).
import Derived.Test.YtplngfammfdemaaZsPx3
namespace Go.Proofs.Ytplngfammfdemaa
set_option linter.unusedVariables false
set_option linter.unusedSimpArgs false
open Go.RowKit Go.Proofs.YtplngfammfdemaaW.PrintWords Go.Proofs.YtplngfammfdemaaW.PrintLast Go.Proofs.YtplngfammfdemaaW.PrintMore Go.Proofs.Ytplngfammfdemaa.P
theorem w64 {i : Int} (h0 : -1000000000000000000 ≤ i) (h1 : i ≤ 1000000000000000000) : wrap64 i = i := by unfold wrap64; omega
/-- From some number of rounds on. -/
def Ev {α : Type} (F : Nat → Option α) (r : α) : Prop := ∃ k0, ∀ k, k0 ≤ k → F k = some r
theorem Ev.of {α : Type} {F : Nat → Option α} {r : α} (hm : ∀ k, LeO (F k) (F (k + 1))) (k0 : Nat) (h : F k0 = some r) : Ev F r :=
  ⟨k0, fun k hk => at_rounds hm hk h⟩
theorem Ev.const {α : Type} (r : α) : Ev (fun _ => some r) r := ⟨0, fun _ _ => rfl⟩
theorem Ev.bind {α β : Type} {F : Nat → Option α} {G : Nat → α → Option β} {r : α} {q : β} (h : Ev F r) (g : Ev (fun k => G k r) q) : Ev (fun k => (F k).bind (G k)) q := by
  obtain ⟨k0, h⟩ := h
  obtain ⟨k1, g⟩ := g
  exact ⟨max k0 k1, fun k hk => by show (F k).bind (G k) = _; rw [h k (by omega), Option.bind_some]; exact g k (by omega)⟩
theorem Ev.succ {α : Type} {F G : Nat → Option α} {r : α} (h : Ev F r) (e : ∀ k, G (k + 1) = F k) : Ev G r := by
  obtain ⟨k0, h⟩ := h
  refine ⟨k0 + 1, fun k hk => ?_⟩
  obtain ⟨k, rfl⟩ : ∃ j, k = j + 1 := ⟨k - 1, by omega⟩
  rw [e]
  exact h k (by omega)
theorem Ev.congr {α : Type} {F G : Nat → Option α} {r : α} (h : Ev F r) (e : ∀ k, G k = F k) : Ev G r := by
  obtain ⟨k0, h⟩ := h
  exact ⟨k0, fun k hk => (e k).trans (h k hk)⟩
theorem Ev.ex {α : Type} {F : Nat → Option α} {r : α} (h : Ev F r) : ∃ k, F k = some r := by
  obtain ⟨k0, h⟩ := h
  exact ⟨k0, h k0 (Nat.le_refl _)⟩
def mayP (x : S48) : Prop := 1 ≤ x.f0 ∧ x.f0 ≤ 99 ∧ 1 ≤ x.f1 ∧ x.f1 ≤ 80 ∧ 2 ≤ x.f2 ∧ x.f2 ≤ 50 ∧ 0 ≤ x.f3 ∧ x.f3 ≤ 1099511627776
instance (x : S48) : Decidable (mayP x) := by unfold mayP; infer_instance
def ltP (a b : S48) : Prop := a.f0 < b.f0 ∧ a.f3 ≠ b.f3
instance (a b : S48) : Decidable (ltP a b) := by unfold ltP; infer_instance
def RightP (l : List S48) : Prop := l.length ≤ 6 ∧ (∀ x ∈ l, mayP x) ∧ l.Pairwise ltP
instance (l : List S48) : Decidable (RightP l) := by unfold RightP; infer_instance
theorem rd48 (l : List S48) (i : Nat) (h : i < l.length) : rd_T48 l (i : Int) = l[i] := by
  unfold rd_T48; rw [Int.toNat_natCast, List.getD_eq_getElem?_getD, List.getElem?_eq_getElem h]; rfl
theorem sz_in (a b c : Int) : size_in.f a b c = some (decide (b ≤ a) && decide (a ≤ c)) := by
  unfold size_in.f
  by_cases h : a ≥ b
  · rw [if_pos h]; simp [show b ≤ a from h]
  · rw [if_neg h]; simp [show ¬ b ≤ a from h]
theorem ref_in (a b c : Int) : backseatref16_in.f a b c = some (decide (b ≤ a) && decide (a ≤ c)) := by
  unfold backseatref16_in.f
  by_cases h : a ≥ b
  · rw [if_pos h]; simp [show b ≤ a from h]
  · rw [if_neg h]; simp [show ¬ b ≤ a from h]
theorem and_if (a x : Bool) : (if a = true then some x else some false) = some (a && x) := by cases a <;> rfl
theorem mayB (a b c d : Int) : ((decide (1 ≤ a) && decide (a ≤ 99)) && ((decide (1 ≤ b) && decide (b ≤ 80)) && ((decide (2 ≤ c) && decide (c ≤ 50)) && (decide (0 ≤ d) && decide (d ≤ 1099511627776))))) = decide (mayP ⟨a, b, c, d⟩) := by
  rw [Bool.eq_iff_iff]
  simp only [Bool.and_eq_true, decide_eq_true_eq]
  unfold mayP
  constructor
  · rintro ⟨⟨h1, h2⟩, ⟨h3, h4⟩, ⟨h5, h6⟩, h7, h8⟩; exact ⟨h1, h2, h3, h4, h5, h6, h7, h8⟩
  · rintro ⟨h1, h2, h3, h4, h5, h6, h7, h8⟩; exact ⟨⟨h1, h2⟩, ⟨h3, h4⟩, ⟨h5, h6⟩, h7, h8⟩
theorem sz_may (a b c d : Int) : size_may.f a b c d = some (decide (mayP ⟨a, b, c, d⟩)) := by
  unfold size_may.f size_time.f
  simp only [sz_in, Option.bind_some, and_if]
  rw [mayB]
theorem ref_may (a b c d : Int) : backseatref16_May.f a b c d = some (decide (mayP ⟨a, b, c, d⟩)) := by
  unfold backseatref16_May.f
  simp only [ref_in, Option.bind_some, and_if]
  rw [mayB]
theorem busy_eq (l : List S48) (c t : Int) (h : l.length < 1000000000000000000) : size_busy.f l c t = some (l.any (busyP c t)) := by unfold size_busy.f; rw [if_pos h]
def okAt (l : List S48) (i : Nat) : Bool := decide (mayP (rd_T48 l i)) && ((decide (i = 0) || decide ((rd_T48 l ((i - 1 : Nat) : Int)).f0 < (rd_T48 l i).f0)) && !(l.any (busyP (rd_T48 l i).f0 (rd_T48 l i).f3)))
theorem right_l0 (l : List S48) (hl : l.length < 1000000000000000000) (d : Nat) : ∀ i : Nat, i + d = l.length → Ev (fun k => size_Right.l0 k l l (l.length : Int) (i : Int)) ((List.range' i d).all (okAt l) && decide (l.length ≤ 6)) := by
  induction d with
  | zero =>
    intro i hi
    refine Ev.succ (Ev.const _) (fun k => ?_)
    rw [size_Right.l0, if_neg (by omega)]
    simp only [List.range', List.all_nil, Bool.true_and]
    congr 1
    rw [decide_eq_decide]; omega
  | succ d ih =>
    intro i hi
    have h := ih (i + 1) (by omega)
    rw [List.range'_succ, List.all_cons]
    have e1 : wrap64 ((i : Int) + 1) = ((i + 1 : Nat) : Int) := by rw [w64 (by omega) (by omega)]; omega
    cases hok : okAt l i with
    | false =>
      refine Ev.succ (Ev.const _) (fun k => ?_)
      rw [size_Right.l0, if_pos (by omega), if_pos (by omega), if_pos (by omega), sz_may, Option.bind_some]
      simp only [busy_eq l _ _ hl, Option.bind_some]
      unfold okAt at hok
      rw [show (⟨(rd_T48 l (i : Int)).f0, (rd_T48 l (i : Int)).f1, (rd_T48 l (i : Int)).f2, (rd_T48 l (i : Int)).f3⟩ : S48) = rd_T48 l (i : Int) from rfl]
      by_cases hm : mayP (rd_T48 l (i : Int))
      · rw [if_pos (by simpa using hm)]
        rw [decide_eq_true hm, Bool.true_and] at hok
        by_cases h0 : i = 0
        · subst h0
          rw [if_neg (by omega)]
          simp only [decide_true, Bool.true_or, Bool.true_and, Bool.not_eq_false'] at hok
          rw [if_pos hok]; rfl
        · rw [if_pos (by omega), w64 (by omega) (by omega), if_pos (by omega), if_pos (by omega)]
          rw [show ((i : Int) - 1) = ((i - 1 : Nat) : Int) by omega]
          rw [decide_eq_false h0, Bool.false_or] at hok
          by_cases hlt : (rd_T48 l ((i - 1 : Nat) : Int)).f0 < (rd_T48 l (i : Int)).f0
          · rw [if_neg (by omega)]
            rw [decide_eq_true hlt, Bool.true_and, Bool.not_eq_false'] at hok
            rw [if_pos hok]; rfl
          · rw [if_pos (by omega)]; rfl
      · rw [if_neg (by simpa using hm)]; rfl
    | true =>
      refine Ev.succ h (fun k => ?_)
      rw [size_Right.l0, if_pos (by omega), if_pos (by omega), if_pos (by omega), sz_may, Option.bind_some]
      simp only [busy_eq l _ _ hl, Option.bind_some]
      unfold okAt at hok
      rw [show (⟨(rd_T48 l (i : Int)).f0, (rd_T48 l (i : Int)).f1, (rd_T48 l (i : Int)).f2, (rd_T48 l (i : Int)).f3⟩ : S48) = rd_T48 l (i : Int) from rfl]
      rw [Bool.and_eq_true, Bool.and_eq_true, Bool.or_eq_true, decide_eq_true_eq, decide_eq_true_eq, decide_eq_true_eq, Bool.not_eq_true'] at hok
      obtain ⟨hm, h0, hb⟩ := hok
      rw [if_pos (by simpa using hm), e1]
      by_cases hz : i = 0
      · subst hz
        rw [if_neg (by omega), if_neg (by rw [hb]; decide)]
      · have hlt := h0.resolve_left hz
        rw [if_pos (by omega), w64 (by omega) (by omega), if_pos (by omega), if_pos (by omega)]
        rw [show ((i : Int) - 1) = ((i - 1 : Nat) : Int) by omega]
        rw [if_neg (by omega), if_neg (by rw [hb]; decide)]
theorem pairwise_next {l : List S48} (h : ∀ i, (hi : i + 1 < l.length) → l[i].f0 < l[i + 1].f0) : ∀ i j, (hij : i < j) → (hj : j < l.length) → l[i].f0 < l[j].f0 := by
  intro i j hij
  induction j with
  | zero => omega
  | succ j ih =>
    intro hj
    by_cases e : i = j
    · subst e; exact h i hj
    · have := ih (by omega) (by omega)
      have := h j hj
      omega
theorem right_iff (l : List S48) : ((List.range' 0 l.length).all (okAt l) && decide (l.length ≤ 6)) = decide (RightP l) := by
  rw [Bool.eq_iff_iff, Bool.and_eq_true, decide_eq_true_eq, decide_eq_true_eq, List.all_eq_true]
  constructor
  · rintro ⟨h, h6⟩
    have hk : ∀ i, (hi : i < l.length) → mayP l[i] ∧ (i = 0 ∨ l[i - 1].f0 < l[i].f0) ∧ ∀ x ∈ l, busyP l[i].f0 l[i].f3 x = false := by
      intro i hi
      have := h i (by rw [List.mem_range']; exact ⟨i, by omega, by omega⟩)
      unfold okAt at this
      rw [Bool.and_eq_true, Bool.and_eq_true, Bool.or_eq_true, decide_eq_true_eq, decide_eq_true_eq, decide_eq_true_eq, Bool.not_eq_true'] at this
      obtain ⟨h1, h2, h3⟩ := this
      rw [rd48 l i hi] at h1 h2 h3
      refine ⟨h1, h2.imp_right (fun h2 => by rw [rd48 l (i - 1) (by omega)] at h2; exact h2), fun x hx => ?_⟩
      rw [List.any_eq_false] at h3
      exact Bool.eq_false_iff.2 (h3 x hx)
    have hs : ∀ i j, (hij : i < j) → (hj : j < l.length) → l[i].f0 < l[j].f0 := pairwise_next (fun i hi => ((hk (i + 1) hi).2.1.resolve_left (by omega)))
    refine ⟨h6, fun x hx => ?_, List.pairwise_iff_getElem.2 (fun i j hi hj hij => ⟨hs i j hij hj, fun e => ?_⟩)⟩
    · obtain ⟨i, hi, rfl⟩ := List.getElem_of_mem hx
      exact (hk i hi).1
    · have := (hk j hj).2.2 l[i] (List.getElem_mem hi)
      unfold busyP at this
      have h1 := hs i j hij hj
      rw [decide_eq_true (show l[i].f0 ≠ l[j].f0 by omega), decide_eq_true e] at this
      cases this
  · rintro ⟨h6, hm, hp⟩
    refine ⟨fun i hi => ?_, h6⟩
    rw [List.mem_range'] at hi
    obtain ⟨j, hj, rfl⟩ := hi
    have hil : 0 + 1 * j < l.length := by omega
    unfold okAt
    rw [rd48 l _ hil]
    rw [Bool.and_eq_true, Bool.and_eq_true, Bool.or_eq_true, decide_eq_true_eq, decide_eq_true_eq, decide_eq_true_eq, Bool.not_eq_true']
    rw [List.pairwise_iff_getElem] at hp
    refine ⟨hm _ (List.getElem_mem hil), ?_, ?_⟩
    · by_cases h0 : 0 + 1 * j = 0
      · exact .inl h0
      · right
        rw [rd48 l _ (by omega)]
        exact (hp _ _ (by omega) hil (by omega)).1
    · rw [List.any_eq_false]
      intro x hx
      obtain ⟨i, hi, rfl⟩ := List.getElem_of_mem hx
      unfold busyP
      rw [Bool.and_eq_true, decide_eq_true_eq, decide_eq_true_eq]
      rintro ⟨h1, h2⟩
      rcases Nat.lt_trichotomy i (0 + 1 * j) with h | h | h
      · exact (hp _ _ hi hil h).2 h2
      · subst h; exact h1 rfl
      · exact (hp _ _ hil hi h).2 h2.symm
theorem right_ev (l : List S48) (hl : l.length < 1000000000000000000) : Ev (fun k => size_Right.f k l) (decide (RightP l)) := by
  rw [← right_iff]
  exact right_l0 l hl l.length 0 (by omega)
end Go.Proofs.Ytplngfammfdemaa
