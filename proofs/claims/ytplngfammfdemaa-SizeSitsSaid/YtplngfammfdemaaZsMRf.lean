-- A copy of the text YtplngfammfdemaaMRf with what this claim does not reach left out (prune.py, a program of this project).
import Derived.Test.YtplngfammfdemaaZsMSz
import Derived.Test.YtplngfammfdemaaZsPx6
import Derived.Test.YtplngfammfdemaaZsPx9
namespace Go.Proofs.Ytplngfammfdemaa
set_option linter.unusedVariables false
set_option linter.unusedSimpArgs false
open Go.RowKit Go.Proofs.YtplngfammfdemaaW.PrintWords Go.Proofs.YtplngfammfdemaaW.PrintLast Go.Proofs.YtplngfammfdemaaW.PrintMore Go.Proofs.Ytplngfammfdemaa.P
theorem seat_eta (x : S48) : (⟨x.f0, x.f1, x.f2, x.f3⟩ : S48) = x := rfl
theorem nx (i n : Nat) (h : i < n) (hn : n < 1000000) : wrap64 ((i : Int) + 1) = ((i + 1 : Nat) : Int) := by rw [w64 (by omega) (by omega)]; omega
def refBad (x s : S48) : Bool := decide (s.f0 ≥ x.f0) || decide (s.f3 = x.f3)
theorem ref_l1 (l : List S48) (n i : Int) (x : S48) (y : List S48) (hy : y.length < 1000000) (r : Bool) (hr : Ev (fun k => backseatref16_Right.l0 k l l n (wrap64 (i + 1))) r) (d : Nat) : ∀ j : Nat, j + d = y.length → Ev (fun k => backseatref16_Right.l1 k l l n i y (y.length : Int) (j : Int) x.f0 x.f1 x.f2 x.f3) (if (y.drop j).any (refBad x) then false else r) := by
  induction d with
  | zero =>
    intro j hj
    rw [List.drop_of_length_le (by omega)]
    refine Ev.succ hr (fun k => ?_)
    rw [backseatref16_Right.l1, if_neg (by omega)]
  | succ d ih =>
    intro j hj
    have hjl : j < y.length := by omega
    have h := ih (j + 1) (by omega)
    rw [List.drop_eq_getElem_cons hjl, List.any_cons]
    by_cases hb : refBad x y[j] = true
    · rw [hb, Bool.true_or, if_pos rfl]
      refine Ev.succ (Ev.const _) (fun k => ?_)
      rw [backseatref16_Right.l1, if_pos (by omega), if_pos (by omega), if_pos (by omega), rd48 y j hjl]
      unfold refBad at hb
      rw [Bool.or_eq_true, decide_eq_true_eq, decide_eq_true_eq] at hb
      by_cases h1 : y[j].f0 ≥ x.f0
      · rw [if_pos h1]
      · rw [if_neg h1, if_pos (hb.resolve_left h1)]
    · rw [Bool.not_eq_true] at hb
      rw [hb, Bool.false_or]
      refine Ev.succ h (fun k => ?_)
      rw [backseatref16_Right.l1, if_pos (by omega), if_pos (by omega), if_pos (by omega), rd48 y j hjl, nx j _ hjl hy]
      unfold refBad at hb
      rw [Bool.or_eq_false_iff, decide_eq_false_iff_not, decide_eq_false_iff_not] at hb
      rw [if_neg hb.1, if_neg hb.2]
def refOk (l : List S48) (i : Nat) : Bool := decide (mayP (rd_T48 l i)) && !((l.take i).any (refBad (rd_T48 l i)))
theorem ref_l0 (l : List S48) (hl : l.length < 1000000) (d : Nat) : ∀ i : Nat, i + d = l.length → Ev (fun k => backseatref16_Right.l0 k l l (l.length : Int) (i : Int)) ((List.range' i d).all (refOk l) && decide (l.length ≤ 6)) := by
  induction d with
  | zero =>
    intro i hi
    refine Ev.succ (Ev.const _) (fun k => ?_)
    rw [backseatref16_Right.l0, if_neg (by omega)]
    simp only [List.range', List.all_nil, Bool.true_and]
    congr 1
    rw [decide_eq_decide]; omega
  | succ d ih =>
    intro i hi
    have h := ih (i + 1) (by omega)
    rw [List.range'_succ, List.all_cons]
    have e1 : wrap64 ((i : Int) + 1) = ((i + 1 : Nat) : Int) := nx i _ (show i < l.length by omega) hl
    by_cases hm : mayP (rd_T48 l (i : Int))
    · have h1 := ref_l1 l (l.length : Int) (i : Int) (rd_T48 l (i : Int)) (l.take i) (by rw [List.length_take]; omega) _ (by rw [e1]; exact h) (l.take i).length 0 (by omega)
      rw [List.drop_zero] at h1
      have hv : (if (l.take i).any (refBad (rd_T48 l (i : Int))) = true then false else ((List.range' (i + 1) d).all (refOk l) && decide (l.length ≤ 6))) = ((refOk l i && (List.range' (i + 1) d).all (refOk l)) && decide (l.length ≤ 6)) := by
        unfold refOk
        rw [decide_eq_true hm]
        cases (l.take i).any (refBad (rd_T48 l (i : Int))) <;> simp
      rw [hv] at h1
      refine Ev.succ h1 (fun k => ?_)
      rw [backseatref16_Right.l0, if_pos (by omega), if_pos (by omega), if_pos (by omega), ref_may, Option.bind_some, seat_eta, if_pos (by simpa using hm), if_pos (by omega), Option.bind_some, Int.toNat_natCast]
      rfl
    · have hv : ((refOk l i && (List.range' (i + 1) d).all (refOk l)) && decide (l.length ≤ 6)) = false := by unfold refOk; rw [decide_eq_false hm]; simp
      rw [hv]
      refine Ev.succ (Ev.const _) (fun k => ?_)
      rw [backseatref16_Right.l0, if_pos (by omega), if_pos (by omega), if_pos (by omega), ref_may, Option.bind_some, seat_eta, if_neg (by simpa using hm)]
theorem ref_iff (l : List S48) : ((List.range' 0 l.length).all (refOk l) && decide (l.length ≤ 6)) = decide (RightP l) := by
  rw [Bool.eq_iff_iff, Bool.and_eq_true, decide_eq_true_eq, decide_eq_true_eq, List.all_eq_true]
  constructor
  · rintro ⟨h, h6⟩
    have hk : ∀ i, (hi : i < l.length) → mayP l[i] ∧ ∀ j, (hj : j < i) → l[j].f0 < l[i].f0 ∧ l[j].f3 ≠ l[i].f3 := by
      intro i hi
      have := h i (by rw [List.mem_range']; exact ⟨i, by omega, by omega⟩)
      unfold refOk at this
      rw [Bool.and_eq_true, decide_eq_true_eq, Bool.not_eq_true', List.any_eq_false] at this
      rw [rd48 l i hi] at this
      refine ⟨this.1, fun j hj => ?_⟩
      have h2 := this.2 l[j] (by rw [List.mem_take_iff_getElem]; exact ⟨j, by omega, rfl⟩)
      rw [Bool.not_eq_true] at h2
      unfold refBad at h2
      rw [Bool.or_eq_false_iff, decide_eq_false_iff_not, decide_eq_false_iff_not] at h2
      exact ⟨by omega, h2.2⟩
    refine ⟨h6, fun x hx => ?_, List.pairwise_iff_getElem.2 (fun i j hi hj hij => (hk j hj).2 i hij)⟩
    obtain ⟨i, hi, rfl⟩ := List.getElem_of_mem hx
    exact (hk i hi).1
  · rintro ⟨h6, hm, hp⟩
    refine ⟨fun i hi => ?_, h6⟩
    rw [List.mem_range'] at hi
    obtain ⟨j, hj, rfl⟩ := hi
    have hil : 0 + 1 * j < l.length := by omega
    unfold refOk
    rw [rd48 l _ hil, Bool.and_eq_true, decide_eq_true_eq, Bool.not_eq_true', List.any_eq_false]
    rw [List.pairwise_iff_getElem] at hp
    refine ⟨hm _ (List.getElem_mem hil), fun x hx => ?_⟩
    rw [List.mem_take_iff_getElem] at hx
    obtain ⟨i, hi, rfl⟩ := hx
    have h2 := hp i (0 + 1 * j) (by omega) hil (by omega)
    rw [Bool.not_eq_true]
    unfold refBad
    rw [Bool.or_eq_false_iff, decide_eq_false_iff_not, decide_eq_false_iff_not]
    exact ⟨by have := h2.1; omega, h2.2⟩
theorem ref_right_ev (l : List S48) (hl : l.length < 1000000) : Ev (fun k => backseatref16_Right.f k l) (decide (RightP l)) := by
  rw [← ref_iff]
  exact ref_l0 l hl l.length 0 (by omega)
theorem ref_some_l1 (c : List Int) (hc : c.length < 1000000) (out : List S48) (xs : List S48) (n i : Int) (x : S48) (r : List S48) (ho : out.length < 1000000) (hT : Ev (fun k => backseatref16_Some.l0 k c (out ++ [x]) xs n (wrap64 (i + 1))) r → True) (b0 : Bool)
    (h1 : (b0 || decide (x.f0 ∈ c)) = true → Ev (fun k => backseatref16_Some.l0 k c (out ++ [x]) xs n (wrap64 (i + 1))) r) (h2 : (b0 || decide (x.f0 ∈ c)) = false → Ev (fun k => backseatref16_Some.l0 k c out xs n (wrap64 (i + 1))) r) (d : Nat) :
    ∀ (j : Nat) (b : Bool), j + d = c.length → (b || decide (x.f0 ∈ c.drop j)) = (b0 || decide (x.f0 ∈ c)) → Ev (fun k => backseatref16_Some.l1 k c out b xs n i c (c.length : Int) (j : Int) x.f0 x.f1 x.f2 x.f3) r := by
  induction d with
  | zero =>
    intro j b hj hb
    rw [List.drop_of_length_le (by omega)] at hb
    simp only [List.not_mem_nil, decide_false, Bool.or_false] at hb
    cases b with
    | true =>
      refine Ev.succ (h1 hb.symm) (fun k => ?_)
      rw [backseatref16_Some.l1, if_neg (by omega), if_pos rfl, if_pos (by omega)]
    | false =>
      refine Ev.succ (h2 hb.symm) (fun k => ?_)
      rw [backseatref16_Some.l1, if_neg (by omega), if_neg (by decide)]
  | succ d ih =>
    intro j b hj hb
    have hjl : j < c.length := by omega
    rw [List.drop_eq_getElem_cons hjl] at hb
    have hrd : rd c (j : Int) = c[j] := by unfold rd; rw [Int.toNat_natCast, List.getD_eq_getElem?_getD, List.getElem?_eq_getElem hjl]; rfl
    cases b with
    | true =>
      have h := ih (j + 1) true (by omega) (by rw [← hb]; simp)
      refine Ev.succ h (fun k => ?_)
      rw [backseatref16_Some.l1, if_pos (by omega), if_pos (by omega), if_pos (by omega), if_pos rfl, nx j _ hjl hc]
    | false =>
      have h := ih (j + 1) (c[j] == x.f0) (by omega) (by
        rw [← hb, Bool.false_or, Bool.eq_iff_iff, Bool.or_eq_true, decide_eq_true_eq, decide_eq_true_eq, beq_iff_eq, List.mem_cons]
        constructor
        · rintro (h | h)
          · exact .inl h.symm
          · exact .inr h
        · rintro (h | h)
          · exact .inl h.symm
          · exact .inr h)
      refine Ev.succ h (fun k => ?_)
      rw [backseatref16_Some.l1, if_pos (by omega), if_pos (by omega), if_pos (by omega), if_neg (by decide), nx j _ hjl hc, hrd]
theorem ref_some_go (l : List S48) (hl : l.length < 1000) (c : List Int) (hc : c.length < 1000000) (d : Nat) : ∀ (i : Nat) (out : List S48), i + d = l.length → out.length ≤ i → Ev (fun k => backseatref16_Some.l0 k c out l (l.length : Int) (i : Int)) (out ++ (l.drop i).filter (fun x => decide (x.f0 ∈ c))) := by
  induction d with
  | zero =>
    intro i out hi ho
    rw [List.drop_of_length_le (by omega)]
    exact Ev.succ (Ev.const _) (fun k => by rw [backseatref16_Some.l0, if_neg (by omega)]; simp)
  | succ d ih =>
    intro i out hi ho
    have hil : i < l.length := by omega
    rw [List.drop_eq_getElem_cons hil, List.filter_cons]
    have hw : wrap64 ((i : Int) + 1) = ((i + 1 : Nat) : Int) := nx i _ hil (by omega)
    have h := ref_some_l1 c hc out l (l.length : Int) (i : Int) l[i] (out ++ (if decide (l[i].f0 ∈ c) = true then l[i] :: (l.drop (i + 1)).filter (fun x => decide (x.f0 ∈ c)) else (l.drop (i + 1)).filter (fun x => decide (x.f0 ∈ c)))) (by omega) (fun _ => trivial) false
      (fun hb => by
        rw [Bool.false_or] at hb
        rw [if_pos hb, hw]
        have := ih (i + 1) (out ++ [l[i]]) (by omega) (by simp; omega)
        rw [List.append_assoc] at this
        exact this)
      (fun hb => by
        rw [Bool.false_or] at hb
        rw [if_neg (by rw [hb]; decide), hw]
        exact ih (i + 1) out (by omega) (by omega)) c.length 0 false (by omega) (by rw [List.drop_zero])
    refine Ev.succ h (fun k => ?_)
    rw [backseatref16_Some.l0, if_pos (by omega), if_pos (by omega), if_pos (by omega), rd48 l i hil]
    rfl
theorem ref_some_ev (l : List S48) (hl : l.length < 1000) (c : List Int) (hc : c.length < 1000000) : Ev (fun k => backseatref16_Some.f k l c) (l.filter (fun x => decide (x.f0 ∈ c))) := by
  have := ref_some_go l hl c hc l.length 0 [] (by omega) (Nat.le_refl _)
  rw [List.nil_append, List.drop_zero] at this
  exact this
end Go.Proofs.Ytplngfammfdemaa
