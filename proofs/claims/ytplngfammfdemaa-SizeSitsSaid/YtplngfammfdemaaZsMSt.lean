-- A copy of the text YtplngfammfdemaaMSt with what this claim does not reach left out (prune.py, a program of this project).
import Derived.Test.YtplngfammfdemaaZsMRg
import Derived.Test.YtplngfammfdemaaZsMTl
import Derived.Test.YtplngfammfdemaaZsPx10
namespace Go.Proofs.Ytplngfammfdemaa
set_option linter.unusedVariables false
set_option linter.unusedSimpArgs false
open Go.RowKit Go.Proofs.YtplngfammfdemaaW.PrintWords Go.Proofs.YtplngfammfdemaaW.PrintLast Go.Proofs.YtplngfammfdemaaW.PrintMore Go.Proofs.Ytplngfammfdemaa.P
/-- With, of seats in order: the seat in its place. -/
theorem with_right (l : List S48) (h : l.Pairwise ltP) (x : S48) : insertS x (lessP l x.f0) = withP l x := by
  rcases split_at x.f0 l h with ⟨S, y, G, rfl, hy, hS, hG⟩ | ⟨S, G, rfl, hS, hG⟩
  · rw [less_in S y G x.f0 hy hS hG, insert_split x S G hS hG, with_in S y G x.f0 hy hS hG x rfl]
  · rw [less_out S G x.f0 hS hG, insert_split x S G hS hG, with_out S G x.f0 hS hG x rfl]
theorem own_of (l : List S48) (h : l.Pairwise ltP) (c : Int) (hh : hasB l c = true) : ∃ y : S48, l.filter (fun x => decide (x.f0 ∈ [c])) = [y] ∧ y.f0 = c ∧ ∀ t, withP l ⟨y.f0, y.f1, y.f2, t⟩ = touchP l c t := by
  rcases split_at c l h with ⟨S, y, G, rfl, hy, hS, hG⟩ | ⟨S, G, rfl, hS, hG⟩
  · exact ⟨y, own_in S y G c hy hS hG, hy, fun t => by rw [touch_in S y G c hy hS hG]; exact with_in S y G c hy hS hG ⟨y.f0, y.f1, y.f2, t⟩ hy⟩
  · rw [has_out S G c hS hG] at hh; cases hh
theorem withP_len (l : List S48) (x : S48) : (withP l x).length ≤ 2 * l.length + 1 := by
  unfold withP
  have h1 := List.length_filter_le (fun y : S48 => decide (y.f0 < x.f0)) l
  have h2 := List.length_filter_le (fun y : S48 => decide (x.f0 < y.f0)) l
  simp only [List.length_append, List.length_cons]
  omega
section
variable {t : List S48} {n1 n2 n3 n4 : Int} {A B C : List S48} {E F G : Int} {W : List S48} {K : Nat}
theorem st_j2 (right : Bool) (bad : Int) (hW : ∀ k, K ≤ k → backseatref16_With.f k t n1 n2 n3 n4 = some W) (hA : ∀ k, K ≤ k → backseatlaw16_is.f k A E bad W = some true)
    (hF : right = false → ∀ k, K ≤ k → backseatlaw16_is.f k B F 1 t = some true ∧ backseatlaw16_is.f k C G 1 t = some true)
    (hh : Bool) (hH : right = true → ∀ k, K ≤ k → backseatref16_Has.f k t n1 = some hh)
    (hN : right = true → hh = false → ∀ k, K ≤ k → (if n4 < 0 then backseatlaw16_SizeSits.j3 k t B F C G 5 true else backseatlaw16_SizeSits.j3 k t B F C G 5 (decide (n4 > 1099511627776))) = some true)
    (hY : right = true → hh = true → ∀ k, K ≤ k → ∃ L, backseatref16_Without.f k t n1 = some L ∧ backseatlaw16_is.f k C G 0 L = some true ∧ (if n4 < 0 then backseatlaw16_SizeSits.j4 k t n1 n4 B F 0 true else backseatlaw16_SizeSits.j4 k t n1 n4 B F 0 (decide (n4 > 1099511627776))) = some true)
    (k : Nat) (hk : K ≤ k) : backseatlaw16_SizeSits.j2 (k + 1) t n1 n4 A E B F C G right bad n1 n2 n3 n4 = some true := by
  rw [backseatlaw16_SizeSits.j2, hW k hk, Option.bind_some, hA k hk, Option.bind_some, if_pos rfl]
  cases right with
  | false =>
    rw [if_neg (by decide), (hF rfl k hk).1, Option.bind_some, if_pos rfl, (hF rfl k hk).2]
    rfl
  | true =>
    rw [if_pos rfl, hH rfl k hk, Option.bind_some]
    cases hh with
    | false => rw [if_neg (by decide)]; exact hN rfl rfl k hk
    | true =>
      obtain ⟨L, e1, e2, e3⟩ := hY rfl rfl k hk
      rw [if_pos rfl, e1, Option.bind_some, e2, Option.bind_some, if_pos rfl]
      exact e3
end
theorem time_or (n4 : Int) {α : Type} (x y : α) (f : Bool → α) (hx : f true = x) (hy : f false = y) : (if n4 < 0 then f true else f (decide (n4 > 1099511627776))) = if 0 ≤ n4 ∧ n4 ≤ 1099511627776 then y else x := by
  by_cases h : n4 < 0
  · rw [if_pos h, if_neg (by omega), hx]
  · rw [if_neg h]
    by_cases h2 : n4 > 1099511627776
    · rw [decide_eq_true h2, if_neg (by omega), hx]
    · rw [decide_eq_false h2, if_pos (by omega), hy]
theorem SizeSits (l0 : List S48) (n1 n2 n3 n4 : Int) : ∃ k, backseatlaw16_SizeSits.f k l0 n1 n2 n3 n4 = some true := by
  obtain ⟨t, ht⟩ : ∃ t, t = l0.take (min l0.length 8) := ⟨_, rfl⟩
  have htl : t.length ≤ 8 := by rw [ht]; exact few_len l0
  obtain ⟨ka, ha⟩ := alive_ev
  obtain ⟨k1, h1⟩ := sit_ev t (by omega) n1 n2 n3 n4
  obtain ⟨k2, h2⟩ := touch_ev t (by omega) n1 n4
  obtain ⟨k3, h3⟩ := leave_ev t (by omega) n1
  obtain ⟨k4, h4⟩ := ref_right_ev t (by omega)
  obtain ⟨k5, h5⟩ := right_ev t (by omega)
  obtain ⟨k6, h6⟩ := rwith_ev t (by omega) ⟨n1, n2, n3, n4⟩
  obtain ⟨k7, h7⟩ := rbusy_ev t (by omega) n1 n4
  obtain ⟨k8, h8⟩ := rhas_ev t (by omega) n1
  obtain ⟨k9, h9⟩ := rless_ev t (by omega) n1
  obtain ⟨k10, h10⟩ := ref_some_ev t (by omega) [n1] (by simp)
  obtain ⟨A, hA⟩ : ∃ A, A = sitR t ⟨n1, n2, n3, n4⟩ := ⟨_, rfl⟩
  obtain ⟨B, hB⟩ : ∃ B, B = touchR t n1 n4 := ⟨_, rfl⟩
  obtain ⟨C, hC⟩ : ∃ C, C = leaveR t n1 := ⟨_, rfl⟩
  rw [← hA] at h1
  rw [← hB] at h2
  rw [← hC] at h3
  -- the answers' parts, by cases
  have main : ∃ K, ∀ k, K ≤ k → backseatlaw16_SizeSits.j0 (k + 3) t n1 n2 n3 n4 A.1 A.2 B.1 B.2 C.1 C.2 (decide (RightP t)) false = some true := by
    by_cases hp : RightP t
    · have hps := hp.2.2
      have eC : C = if hasB t n1 = true then (lessP t n1, 0) else ([], 5) := by rw [hC]; unfold leaveR; rw [if_pos hp]
      have eB : B = if 0 ≤ n4 ∧ n4 ≤ 1099511627776 then (if hasB t n1 = true then (if t.any (busyP n1 n4) then ([], 6) else (touchP t n1 n4, 0)) else ([], 5)) else ([], 1) := by
        rw [hB]; unfold touchR
        by_cases ht : 0 ≤ n4 ∧ n4 ≤ 1099511627776
        · rw [if_pos ⟨hp, ht⟩, if_pos ht]
        · rw [if_neg (fun h => ht h.2), if_neg ht]
      have hWe : insertS ⟨n1, n2, n3, n4⟩ (lessP t n1) = withP t ⟨n1, n2, n3, n4⟩ := with_right t hps ⟨n1, n2, n3, n4⟩
      have hlw : ∀ x : S48, (withP t x).length < 1000000 := fun x => by have := withP_len t x; omega
      have hll : (lessP t n1).length < 1000000 := by have : (lessP t n1).length ≤ t.length := List.length_filter_le _ _; omega
      have hlt : (touchP t n1 n4).length < 1000000 := by unfold touchP; rw [List.length_map]; omega
      -- what stands behind the first answer
      have hN : hasB t n1 = false → ∀ k, (if n4 < 0 then backseatlaw16_SizeSits.j3 (k + 1) t B.1 B.2 C.1 C.2 5 true else backseatlaw16_SizeSits.j3 (k + 1) t B.1 B.2 C.1 C.2 5 (decide (n4 > 1099511627776))) = some true := by
        intro hh k
        have e1 : C = ([], 5) := by rw [eC, if_neg (by rw [hh]; decide)]
        rw [time_or n4 _ _ (fun b => backseatlaw16_SizeSits.j3 (k + 1) t B.1 B.2 C.1 C.2 5 b) rfl rfl]
        by_cases ht : 0 ≤ n4 ∧ n4 ≤ 1099511627776
        · have e2 : B = ([], 5) := by rw [eB, if_pos ht, if_neg (by rw [hh]; decide)]
          rw [if_pos ht, backseatlaw16_SizeSits.j3, if_neg (by decide), e1, e2]
          simp only [is_bad _ _ _ _ (show (5 : Int) ≠ 0 by decide)]
          rfl
        · have e2 : B = ([], 1) := by rw [eB, if_neg ht]
          rw [if_neg ht, backseatlaw16_SizeSits.j3, if_pos rfl, e1, e2]
          simp only [is_bad _ _ _ _ (show (5 : Int) ≠ 0 by decide), is_bad _ _ _ _ (show (1 : Int) ≠ 0 by decide)]
          rfl
      have hY : ∃ K, hasB t n1 = true → ∀ k, K ≤ k → ∃ L, backseatref16_Without.f (k + 1) t n1 = some L ∧ backseatlaw16_is.f (k + 1) C.1 C.2 0 L = some true ∧ (if n4 < 0 then backseatlaw16_SizeSits.j4 (k + 1) t n1 n4 B.1 B.2 0 true else backseatlaw16_SizeSits.j4 (k + 1) t n1 n4 B.1 B.2 0 (decide (n4 > 1099511627776))) = some true := by
        cases hh : hasB t n1 with
        | false => exact ⟨0, fun h => by cases h⟩
        | true =>
          obtain ⟨y, hy1, hy2, hy3⟩ := own_of t hps n1 hh
          obtain ⟨k11, h11⟩ := rwith_ev t (by omega) ⟨y.f0, y.f1, y.f2, n4⟩
          have hWy : insertS ⟨y.f0, y.f1, y.f2, n4⟩ (lessP t y.f0) = touchP t n1 n4 := by rw [← hy3 n4]; exact with_right t hps ⟨y.f0, y.f1, y.f2, n4⟩
          obtain ⟨k12, h12⟩ := is_ok (lessP t n1) (lessP t n1) hll 0
          obtain ⟨k13, h13⟩ := is_ok (touchP t n1 n4) (touchP t n1 n4) hlt 0
          have e1 : C = (lessP t n1, 0) := by rw [eC, if_pos hh]
          refine ⟨k7 + k9 + k10 + k11 + k12 + k13, fun _ k hk => ⟨lessP t n1, h9 (k + 1) (by omega), ?_, ?_⟩⟩
          · have := h12 (k + 1) (by omega)
            dsimp only at this
            rw [e1, this]; simp
          · rw [time_or n4 _ _ (fun b => backseatlaw16_SizeSits.j4 (k + 1) t n1 n4 B.1 B.2 0 b) rfl rfl]
            have qs := h10 k (by omega)
            have qw := h11 k (by omega)
            have qb := h7 k (by omega)
            dsimp only at qs qw qb
            rw [hy1] at qs
            rw [hWy] at qw
            have hrd : rd_T48 [y] 0 = y := rfl
            by_cases ht : 0 ≤ n4 ∧ n4 ≤ 1099511627776
            · rw [if_pos ht, backseatlaw16_SizeSits.j4, if_neg (by decide), qb, Option.bind_some]
              by_cases hbu : t.any (busyP n1 n4) = true
              · have e2 : B = ([], 6) := by rw [eB, if_pos ht, if_pos hh, if_pos hbu]
                rw [if_pos hbu, qs, Option.bind_some, if_pos (by simp), hrd, qw, Option.bind_some, e2, is_bad _ _ _ _ (by decide)]
                rfl
              · have e2 : B = (touchP t n1 n4, 0) := by rw [eB, if_pos ht, if_pos hh, if_neg hbu]
                have qi := h13 k (by omega)
                dsimp only at qi
                rw [if_neg hbu, qs, Option.bind_some, if_pos (by simp), hrd, qw, Option.bind_some, e2, qi]
                simp
            · have e2 : B = ([], 1) := by rw [eB, if_neg ht]
              rw [if_neg ht, backseatlaw16_SizeSits.j4, if_pos rfl, qs, Option.bind_some, if_pos (by simp), hrd, qw, Option.bind_some, e2, is_bad _ _ _ _ (by decide)]
              rfl
      obtain ⟨kY, hY⟩ := hY
      have step : ∀ (bad : Int), (∃ K, ∀ k, K ≤ k → backseatlaw16_is.f k A.1 A.2 bad (withP t ⟨n1, n2, n3, n4⟩) = some true) → ∃ K, ∀ k, K ≤ k → backseatlaw16_SizeSits.j2 (k + 1) t n1 n4 A.1 A.2 B.1 B.2 C.1 C.2 true bad n1 n2 n3 n4 = some true := by
        rintro bad ⟨K1, hK1⟩
        refine ⟨K1 + kY + k6 + k8 + 1, fun k hk => ?_⟩
        refine st_j2 (K := K1 + kY + k6 + k8 + 1) (W := withP t ⟨n1, n2, n3, n4⟩) true bad (fun k hk => ?_) (fun k hk => hK1 k (by omega)) (fun h => by cases h) (hasB t n1) (fun _ k hk => h8 k (by omega)) (fun _ h k hk => ?_) (fun _ h k hk => ?_) k hk
        · have := h6 k (by omega)
          dsimp only at this
          rw [hWe] at this
          exact this
        · obtain ⟨k, rfl⟩ : ∃ j, k = j + 1 := ⟨k - 1, by omega⟩
          exact hN h k
        · obtain ⟨k, rfl⟩ : ∃ j, k = j + 1 := ⟨k - 1, by omega⟩
          exact hY h k (by omega)
      rw [decide_eq_true hp]
      by_cases hm : mayP ⟨n1, n2, n3, n4⟩
      · have eA : A = if t.any (busyP n1 n4) then ([], 6) else if hasB t n1 = true ∨ t.length ≠ 6 then (withP t ⟨n1, n2, n3, n4⟩, 0) else ([], 7) := by rw [hA]; unfold sitR; rw [if_pos ⟨hp, hm⟩]
        by_cases hbu : t.any (busyP n1 n4) = true
        · rw [if_pos hbu] at eA
          obtain ⟨K2, h2⟩ := step 6 ⟨0, fun k _ => by rw [eA, is_bad _ _ _ _ (by decide)]; rfl⟩
          refine ⟨K2 + k7 + k8, fun k hk => ?_⟩
          have qb := h7 (k + 1) (by omega)
          dsimp only at qb
          rw [backseatlaw16_SizeSits.j0, if_neg (by decide), if_pos rfl, ref_may, Option.bind_some, decide_eq_true hm, backseatlaw16_SizeSits.j1, if_neg (by decide), qb, Option.bind_some, if_pos hbu]
          exact h2 k (by omega)
        · rw [if_neg hbu] at eA
          have hb0 : t.any (busyP n1 n4) = false := Bool.eq_false_iff.2 hbu
          by_cases hh : hasB t n1 = true
          · rw [if_pos (.inl hh)] at eA
            obtain ⟨K1, hK1⟩ := is_ok (withP t ⟨n1, n2, n3, n4⟩) (withP t ⟨n1, n2, n3, n4⟩) (hlw _) 0
            obtain ⟨K2, h2⟩ := step 0 ⟨K1, fun k hk => by have := hK1 k hk; dsimp only at this; rw [eA, this]; simp⟩
            refine ⟨K2 + k7 + k8, fun k hk => ?_⟩
            have qb := h7 (k + 1) (by omega)
            have qh := h8 (k + 1) (by omega)
            dsimp only at qb qh
            rw [backseatlaw16_SizeSits.j0, if_neg (by decide), if_pos rfl, ref_may, Option.bind_some, decide_eq_true hm, backseatlaw16_SizeSits.j1, if_neg (by decide), qb, Option.bind_some, if_neg hbu, qh, Option.bind_some, if_pos hh]
            exact h2 k (by omega)
          · by_cases h6l : t.length = 6
            · rw [if_neg (fun h => h.elim hh (fun h => h h6l))] at eA
              obtain ⟨K2, h2⟩ := step 7 ⟨0, fun k _ => by rw [eA, is_bad _ _ _ _ (by decide)]; rfl⟩
              refine ⟨K2 + k7 + k8, fun k hk => ?_⟩
              have qb := h7 (k + 1) (by omega)
              have qh := h8 (k + 1) (by omega)
              dsimp only at qb qh
              rw [backseatlaw16_SizeSits.j0, if_neg (by decide), if_pos rfl, ref_may, Option.bind_some, decide_eq_true hm, backseatlaw16_SizeSits.j1, if_neg (by decide), qb, Option.bind_some, if_neg hbu, qh, Option.bind_some, if_neg hh, if_pos (by omega)]
              exact h2 k (by omega)
            · rw [if_pos (.inr h6l)] at eA
              obtain ⟨K1, hK1⟩ := is_ok (withP t ⟨n1, n2, n3, n4⟩) (withP t ⟨n1, n2, n3, n4⟩) (hlw _) 0
              obtain ⟨K2, h2⟩ := step 0 ⟨K1, fun k hk => by have := hK1 k hk; dsimp only at this; rw [eA, this]; simp⟩
              refine ⟨K2 + k7 + k8, fun k hk => ?_⟩
              have qb := h7 (k + 1) (by omega)
              have qh := h8 (k + 1) (by omega)
              dsimp only at qb qh
              rw [backseatlaw16_SizeSits.j0, if_neg (by decide), if_pos rfl, ref_may, Option.bind_some, decide_eq_true hm, backseatlaw16_SizeSits.j1, if_neg (by decide), qb, Option.bind_some, if_neg hbu, qh, Option.bind_some, if_neg hh, if_neg (by omega)]
              exact h2 k (by omega)
      · have eA : A = ([], 1) := by rw [hA]; unfold sitR; rw [if_neg (fun h => hm h.2)]
        obtain ⟨K2, h2⟩ := step 1 ⟨0, fun k _ => by rw [eA, is_bad _ _ _ _ (by decide)]; rfl⟩
        refine ⟨K2, fun k hk => ?_⟩
        rw [backseatlaw16_SizeSits.j0, if_neg (by decide), if_pos rfl, ref_may, Option.bind_some, decide_eq_false hm, backseatlaw16_SizeSits.j1, if_pos (show (!false) = true from rfl)]
        exact h2 k hk
    · have eA : A = ([], 1) := by rw [hA]; unfold sitR; rw [if_neg (fun h => hp h.1)]
      have eB : B = ([], 1) := by rw [hB]; unfold touchR; rw [if_neg (fun h => hp h.1)]
      have eC : C = ([], 1) := by rw [hC]; unfold leaveR; rw [if_neg hp]
      refine ⟨k6, fun k hk => ?_⟩
      rw [decide_eq_false hp, backseatlaw16_SizeSits.j0, if_neg (by decide), if_neg (by decide), backseatlaw16_SizeSits.j1, if_pos rfl, eA, eB, eC]
      exact st_j2 (K := k6) false 1 h6 (fun k _ => by rw [is_bad _ _ _ _ (by decide)]; rfl) (fun _ k _ => by rw [is_bad _ _ _ _ (by decide)]; exact ⟨rfl, rfl⟩) false (fun h => by cases h) (fun h => by cases h) (fun h => by cases h) k hk
  obtain ⟨K, hK⟩ := main
  refine ⟨K + ka + k1 + k2 + k3 + k4 + k5 + 3, ?_⟩
  have q1 := h1 (K + ka + k1 + k2 + k3 + k4 + k5 + 3) (by omega)
  have q2 := h2 (K + ka + k1 + k2 + k3 + k4 + k5 + 3) (by omega)
  have q3 := h3 (K + ka + k1 + k2 + k3 + k4 + k5 + 3) (by omega)
  have q4 := h4 (K + ka + k1 + k2 + k3 + k4 + k5 + 3) (by omega)
  have q5 := h5 (K + ka + k1 + k2 + k3 + k4 + k5 + 3) (by omega)
  have qa := ha (K + ka + k1 + k2 + k3 + k4 + k5 + 3) (by omega)
  have qK := hK (K + ka + k1 + k2 + k3 + k4 + k5) (by omega)
  dsimp only at q1 q2 q3 q4 q5 qa
  unfold backseatlaw16_SizeSits.f
  rw [few_eq, Option.bind_some, ← ht, q1, Option.bind_some, q2, Option.bind_some, q3, Option.bind_some, q4, Option.bind_some, q5, Option.bind_some, if_neg (by simp), qa, Option.bind_some]
  exact qK
end Go.Proofs.Ytplngfammfdemaa
