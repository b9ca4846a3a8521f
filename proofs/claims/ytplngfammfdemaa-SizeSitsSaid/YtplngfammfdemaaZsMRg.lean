-- A copy of the text YtplngfammfdemaaMRg with what this claim does not reach left out (prune.py, a program of this project).
import Derived.Test.YtplngfammfdemaaZsMRf
import Derived.Test.YtplngfammfdemaaZsMSit
namespace Go.Proofs.Ytplngfammfdemaa
set_option linter.unusedVariables false
set_option linter.unusedSimpArgs false
open Go.RowKit Go.Proofs.YtplngfammfdemaaW.PrintWords Go.Proofs.YtplngfammfdemaaW.PrintLast Go.Proofs.YtplngfammfdemaaW.PrintMore Go.Proofs.Ytplngfammfdemaa.P
theorem rbusy_go (l : List S48) (hl : l.length < 1000000) (c t : Int) (d : Nat) : ∀ i : Nat, i + d = l.length → Ev (fun k => backseatref16_Busy.l0 k c t l (l.length : Int) (i : Int)) ((l.drop i).any (busyP c t)) := by
  induction d with
  | zero =>
    intro i hi
    rw [List.drop_of_length_le (by omega)]
    exact Ev.succ (Ev.const _) (fun k => by rw [backseatref16_Busy.l0, if_neg (by omega)]; rfl)
  | succ d ih =>
    intro i hi
    have hil : i < l.length := by omega
    have h := ih (i + 1) (by omega)
    rw [List.drop_eq_getElem_cons hil, List.any_cons]
    by_cases hb : busyP c t l[i] = true
    · rw [hb, Bool.true_or]
      refine Ev.succ (Ev.const _) (fun k => ?_)
      unfold busyP at hb
      rw [Bool.and_eq_true, decide_eq_true_eq, decide_eq_true_eq] at hb
      rw [backseatref16_Busy.l0, if_pos (by omega), if_pos (by omega), if_pos (by omega), rd48 l i hil, if_neg hb.1, if_pos hb.2]
    · rw [Bool.not_eq_true] at hb
      rw [hb, Bool.false_or]
      refine Ev.succ h (fun k => ?_)
      rw [backseatref16_Busy.l0, if_pos (by omega), if_pos (by omega), if_pos (by omega), rd48 l i hil, nx i _ hil hl]
      unfold busyP at hb
      rw [Bool.and_eq_false_iff, decide_eq_false_iff_not, decide_eq_false_iff_not] at hb
      by_cases h1 : l[i].f0 = c
      · rw [if_pos h1]
      · rw [if_neg h1, if_neg (hb.resolve_left (fun h => h h1))]
theorem rbusy_ev (l : List S48) (hl : l.length < 1000000) (c t : Int) : Ev (fun k => backseatref16_Busy.f k l c t) (l.any (busyP c t)) := rbusy_go l hl c t l.length 0 (by omega)
theorem rhas_go (l : List S48) (hl : l.length < 1000000) (c : Int) (d : Nat) : ∀ i : Nat, i + d = l.length → Ev (fun k => backseatref16_Has.l0 k c l (l.length : Int) (i : Int)) (hasB (l.drop i) c) := by
  induction d with
  | zero =>
    intro i hi
    rw [List.drop_of_length_le (by omega)]
    exact Ev.succ (Ev.const _) (fun k => by rw [backseatref16_Has.l0, if_neg (by omega)]; rfl)
  | succ d ih =>
    intro i hi
    have hil : i < l.length := by omega
    have h := ih (i + 1) (by omega)
    unfold hasB at h ⊢
    rw [List.drop_eq_getElem_cons hil, List.any_cons]
    by_cases hb : l[i].f0 = c
    · rw [decide_eq_true hb, Bool.true_or]
      exact Ev.succ (Ev.const _) (fun k => by rw [backseatref16_Has.l0, if_pos (by omega), if_pos (by omega), if_pos (by omega), rd48 l i hil, if_pos hb])
    · rw [decide_eq_false hb, Bool.false_or]
      exact Ev.succ h (fun k => by rw [backseatref16_Has.l0, if_pos (by omega), if_pos (by omega), if_pos (by omega), rd48 l i hil, nx i _ hil hl, if_neg hb])
theorem rhas_ev (l : List S48) (hl : l.length < 1000000) (c : Int) : Ev (fun k => backseatref16_Has.f k l c) (hasB l c) := rhas_go l hl c l.length 0 (by omega)
theorem rless_go (l : List S48) (hl : l.length < 1000) (c : Int) (d : Nat) : ∀ (i : Nat) (out : List S48), i + d = l.length → out.length ≤ i → Ev (fun k => backseatref16_Without.l0 k c out l (l.length : Int) (i : Int)) (out ++ lessP (l.drop i) c) := by
  induction d with
  | zero =>
    intro i out hi ho
    rw [List.drop_of_length_le (by omega)]
    exact Ev.succ (Ev.const _) (fun k => by rw [backseatref16_Without.l0, if_neg (by omega)]; simp [lessP])
  | succ d ih =>
    intro i out hi ho
    have hil : i < l.length := by omega
    by_cases hb : l[i].f0 = c
    · have h := ih (i + 1) out (by omega) (by omega)
      unfold lessP at h ⊢
      rw [List.drop_eq_getElem_cons hil, List.filter_cons, if_neg (by simp [hb])]
      exact Ev.succ h (fun k => by rw [backseatref16_Without.l0, if_pos (by omega), if_pos (by omega), if_pos (by omega), rd48 l i hil, nx i _ hil (by omega), if_pos hb])
    · have h := ih (i + 1) (out ++ [l[i]]) (by omega) (by simp; omega)
      unfold lessP at h ⊢
      rw [List.drop_eq_getElem_cons hil, List.filter_cons, if_pos (by simp [hb])]
      rw [List.append_assoc] at h
      exact Ev.succ h (fun k => by rw [backseatref16_Without.l0, if_pos (by omega), if_pos (by omega), if_pos (by omega), rd48 l i hil, nx i _ hil (by omega), if_neg hb, if_pos (by omega)])
theorem rless_ev (l : List S48) (hl : l.length < 1000) (c : Int) : Ev (fun k => backseatref16_Without.f k l c) (lessP l c) := by
  have := rless_go l hl c l.length 0 [] (by omega) (Nat.le_refl _)
  rw [List.nil_append, List.drop_zero] at this
  exact this
def insertS (x : S48) : List S48 → List S48
  | [] => [x]
  | y :: l => if x.f0 < y.f0 then x :: y :: l else y :: insertS x l
theorem rwith_done (l : List S48) (hl : l.length < 1000) (x : S48) (d : Nat) : ∀ (i : Nat) (out : List S48), i + d = l.length → out.length ≤ i + 1 → Ev (fun k => backseatref16_With.l0 k out true l (l.length : Int) (i : Int) x.f0 x.f1 x.f2 x.f3) (out ++ l.drop i) := by
  induction d with
  | zero =>
    intro i out hi ho
    rw [List.drop_of_length_le (by omega), List.append_nil]
    exact Ev.succ (Ev.const _) (fun k => by rw [backseatref16_With.l0, if_neg (by omega), if_pos rfl])
  | succ d ih =>
    intro i out hi ho
    have hil : i < l.length := by omega
    have h := ih (i + 1) (out ++ [l[i]]) (by omega) (by simp; omega)
    rw [List.drop_eq_getElem_cons hil]
    rw [List.append_assoc] at h
    exact Ev.succ h (fun k => by rw [backseatref16_With.l0, if_pos (by omega), if_pos (by omega), if_pos (by omega), if_pos rfl, if_pos (by omega), rd48 l i hil, nx i _ hil (by omega)])
theorem rwith_go (l : List S48) (hl : l.length < 1000) (x : S48) (d : Nat) : ∀ (i : Nat) (out : List S48), i + d = l.length → out.length ≤ i → Ev (fun k => backseatref16_With.l0 k out false l (l.length : Int) (i : Int) x.f0 x.f1 x.f2 x.f3) (out ++ insertS x (l.drop i)) := by
  induction d with
  | zero =>
    intro i out hi ho
    rw [List.drop_of_length_le (by omega)]
    exact Ev.succ (Ev.const _) (fun k => by rw [backseatref16_With.l0, if_neg (by omega), if_neg (by decide), if_pos (by omega)]; rfl)
  | succ d ih =>
    intro i out hi ho
    have hil : i < l.length := by omega
    rw [List.drop_eq_getElem_cons hil, insertS]
    by_cases hb : x.f0 < l[i].f0
    · rw [if_pos hb]
      have h := rwith_done l hl x d (i + 1) ((out ++ [x]) ++ [l[i]]) (by omega) (by simp; omega)
      rw [List.append_assoc, List.append_assoc] at h
      exact Ev.succ h (fun k => by rw [backseatref16_With.l0, if_pos (by omega), if_pos (by omega), if_pos (by omega), if_neg (by decide), rd48 l i hil, if_pos hb, if_pos (by omega), Option.bind_some, if_pos (by simp; omega), nx i _ hil (by omega), List.append_assoc])
    · rw [if_neg hb]
      have h := ih (i + 1) (out ++ [l[i]]) (by omega) (by simp; omega)
      rw [List.append_assoc] at h
      exact Ev.succ h (fun k => by rw [backseatref16_With.l0, if_pos (by omega), if_pos (by omega), if_pos (by omega), if_neg (by decide), rd48 l i hil, if_neg hb, if_pos (by omega), nx i _ hil (by omega)])
theorem rwith_ev (l : List S48) (hl : l.length < 1000) (x : S48) : Ev (fun k => backseatref16_With.f k l x.f0 x.f1 x.f2 x.f3) (insertS x (lessP l x.f0)) := by
  obtain ⟨k0, h0⟩ := rless_ev l hl x.f0
  have hle : (lessP l x.f0).length ≤ l.length := List.length_filter_le _ _
  obtain ⟨k1, h1⟩ := rwith_go (lessP l x.f0) (by omega) x (lessP l x.f0).length 0 [] (by omega) (Nat.le_refl _)
  refine ⟨max k0 k1, fun k hk => ?_⟩
  have e0 := h0 k (by omega)
  have e1 := h1 k (by omega)
  dsimp only at e0 e1 ⊢
  rw [List.nil_append, List.drop_zero] at e1
  unfold backseatref16_With.f
  rw [e0, Option.bind_some]
  exact e1
theorem insert_split (x : S48) : ∀ (S G : List S48), (∀ y ∈ S, y.f0 < x.f0) → (∀ y ∈ G, x.f0 < y.f0) → insertS x (S ++ G) = S ++ x :: G
  | [], [], _, _ => rfl
  | [], y :: G, _, hG => by show insertS x (y :: G) = _; rw [insertS, if_pos (hG y (by simp))]; rfl
  | y :: S, G, hS, hG => by
    rw [List.cons_append, insertS, if_neg (by have := hS y (by simp); omega), insert_split x S G (fun z hz => hS z (by simp [hz])) hG]; rfl
instance : DecidableEq S48 := fun x y => decidable_of_iff (x.f0 = y.f0 ∧ x.f1 = y.f1 ∧ x.f2 = y.f2 ∧ x.f3 = y.f3) (by cases x; cases y; simp)
theorem rsame_go (a b : List S48) (hl : a.length < 1000000) (hb : a.length = b.length) (d : Nat) : ∀ i : Nat, i + d = a.length → Ev (fun k => backseatref16_Same.l0 k a b (a.length : Int) (i : Int)) (decide (a.drop i = b.drop i)) := by
  induction d with
  | zero =>
    intro i hi
    rw [List.drop_of_length_le (by omega), List.drop_of_length_le (by omega)]
    exact Ev.succ (Ev.const _) (fun k => by rw [backseatref16_Same.l0, if_neg (by omega)]; rfl)
  | succ d ih =>
    intro i hi
    have hil : i < a.length := by omega
    have hib : i < b.length := by omega
    have h := ih (i + 1) (by omega)
    rw [List.drop_eq_getElem_cons hil, List.drop_eq_getElem_cons hib]
    have hq : ∀ x y : S48, ((!(x.f0 == y.f0) || (!(x.f1 == y.f1) || (!(x.f2 == y.f2) || (!(x.f3 == y.f3))))) = true) ↔ x ≠ y := by
      intro x y
      cases x; cases y
      simp only [Bool.or_eq_true, Bool.not_eq_true', beq_eq_false_iff_ne, ne_eq, S48.mk.injEq]
      omega
    by_cases he : a[i] = b[i]
    · have e2 : decide (a[i] :: a.drop (i + 1) = b[i] :: b.drop (i + 1)) = decide (a.drop (i + 1) = b.drop (i + 1)) := by rw [decide_eq_decide, List.cons.injEq]; exact ⟨fun h => h.2, fun h => ⟨he, h⟩⟩
      rw [e2]
      exact Ev.succ h (fun k => by rw [backseatref16_Same.l0, if_pos (by omega), if_pos (by omega), if_pos (by omega), if_pos (by omega), rd48 a i hil, rd48 b i hib, if_neg (fun h => (hq _ _).1 h he), nx i _ hil hl])
    · rw [decide_eq_false (fun h => he (List.cons.inj h).1)]
      exact Ev.succ (Ev.const _) (fun k => by rw [backseatref16_Same.l0, if_pos (by omega), if_pos (by omega), if_pos (by omega), if_pos (by omega), rd48 a i hil, rd48 b i hib, if_pos ((hq _ _).2 he)])
theorem rsame_ev (a b : List S48) (hl : a.length < 1000000) : Ev (fun k => backseatref16_Same.f k a b) (decide (a = b)) := by
  unfold backseatref16_Same.f
  by_cases h : a.length = b.length
  · simp only [show ((a.length : Int) = (b.length : Int)) = True from eq_true (by omega), if_true]
    exact rsame_go a b hl h a.length 0 (by omega)
  · rw [decide_eq_false (fun e => h (by rw [e]))]
    refine ⟨0, fun k _ => ?_⟩
    dsimp only
    rw [if_neg (by omega)]
theorem is_ok (l w : List S48) (hl : l.length < 1000000) (e : Int) : Ev (fun k => backseatlaw16_is.f k l e 0 w) (decide (e = 0) && decide (l = w)) := by
  obtain ⟨k0, h⟩ := rsame_ev l w hl
  refine ⟨k0, fun k hk => ?_⟩
  have := h k hk
  dsimp only at this ⊢
  unfold backseatlaw16_is.f
  rw [if_pos rfl]
  by_cases he : e = 0
  · rw [if_pos he, this, Option.bind_some, decide_eq_true he, Bool.true_and]
  · rw [if_neg he, decide_eq_false he, Bool.false_and]
theorem is_bad (l w : List S48) (e bad : Int) (hb : bad ≠ 0) (k : Nat) : backseatlaw16_is.f k l e bad w = some (decide (e = bad) && decide (l.length = 0)) := by
  unfold backseatlaw16_is.f
  rw [if_neg hb]
  by_cases he : e = bad
  · rw [if_pos he, decide_eq_true he, Bool.true_and]
    congr 1
    rw [Bool.eq_iff_iff, beq_iff_eq, decide_eq_true_eq]; omega
  · rw [if_neg he, decide_eq_false he, Bool.false_and]
end Go.Proofs.Ytplngfammfdemaa
