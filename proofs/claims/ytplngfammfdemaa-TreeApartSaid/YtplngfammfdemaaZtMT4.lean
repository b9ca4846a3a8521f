-- A copy of the text YtplngfammfdemaaMT4 with what this claim does not reach left out (prune.py, a program of this project).
import Derived.Test.YtplngfammfdemaaZtGSplit
import Derived.Test.YtplngfammfdemaaZtQx30
namespace Go.Proofs.Ytplngfammfdemaa
open Go.RowKit Go.Proofs.YtplngfammfdemaaW.PrintWords Go.Proofs.YtplngfammfdemaaW.PrintMore Q
set_option linter.unusedVariables false
set_option linter.unusedSimpArgs false
theorem Few_mono : ∀ {d d' : Nat} {t : S31}, Few d t → d ≤ d' → Few d' t := by
  intro d
  induction d with
  | zero => intro d' t h; exact h.elim
  | succ d ih =>
    intro d' t h hd
    obtain ⟨d', rfl⟩ : ∃ m, d' = m + 1 := ⟨d' - 1, by omega⟩
    exact ⟨h.1, fun x hx => ih (h.2 x hx) (by omega)⟩
theorem few_all : ∀ l : List S31, (∀ x ∈ l, ∃ d, Few d x) → ∃ d, ∀ x ∈ l, Few d x := by
  intro l
  induction l with
  | nil => intro _; exact ⟨0, fun x hx => (by simp at hx)⟩
  | cons t l ih =>
    intro h
    obtain ⟨a, ha⟩ := h t List.mem_cons_self
    obtain ⟨b, hb⟩ := ih (fun x hx => h x (List.mem_cons_of_mem _ hx))
    refine ⟨max a b, fun x hx => ?_⟩
    rcases List.mem_cons.1 hx with rfl | hx
    · exact Few_mono ha (Nat.le_max_left _ _)
    · exact Few_mono (hb x hx) (Nat.le_max_right _ _)
theorem count_ends : ∀ (n : Nat) (t : S31), SizeOf.sizeOf t ≤ n → ∀ m : Int, 0 ≤ m → m ≤ 60 → ∃ K r, (∀ k, K ≤ k → backseatref11_Count.f k t.f0 t.f1 t.f2 t.f3 m = some r) ∧ 1 ≤ r ∧ r ≤ m + 1 ∧ (r ≤ m → ∃ d, Few d t) := by
  intro n
  induction n with
  | zero => intro t ht; cases t; simp at ht
  | succ n ih =>
    intro t ht m hm0 hm
    have hkid : ∀ x ∈ t.f3, SizeOf.sizeOf x ≤ n := by
      intro x hx
      have h1 := List.sizeOf_lt_of_mem hx
      obtain ⟨a, b, c, l⟩ := t
      simp only [S31.mk.sizeOf_spec] at ht
      simp only at h1
      omega
    have loop : ∀ d i, i + d = t.f3.length → ∀ c : Int, 1 + (i : Int) ≤ c → c ≤ m + 1 → ∃ K r, (∀ k, K ≤ k → backseatref11_Count.l0 k m c t.f3 (t.f3.length : Int) (i : Int) = some r) ∧ 1 ≤ r ∧ r ≤ m + 1 ∧ (r ≤ m → c + d ≤ r ∧ ∀ x ∈ t.f3.drop i, ∃ d, Few d x) := by
      intro d
      induction d with
      | zero =>
        intro i hi c hc0 hc1
        refine ⟨1, c, fun k hk => ?_, by omega, by omega, fun _ => ⟨by omega, fun x hx => ?_⟩⟩
        · obtain ⟨k, rfl⟩ : ∃ m, k = m + 1 := ⟨k - 1, by omega⟩
          simp only [backseatref11_Count.l0]
          rw [if_neg (by omega)]
        · rw [List.drop_eq_nil_of_le (by omega)] at hx; simp at hx
      | succ d ihd =>
        intro i hi c hc0 hc1
        by_cases hcm : c > m
        · refine ⟨1, c, fun k hk => ?_, by omega, by omega, fun h => by omega⟩
          obtain ⟨k, rfl⟩ : ∃ m, k = m + 1 := ⟨k - 1, by omega⟩
          simp only [backseatref11_Count.l0]
          rw [if_pos (by omega), if_pos (by omega), if_pos (by omega), if_pos hcm]
        · obtain ⟨K1, r1, e1, a1, a2, a3⟩ := ih _ (hkid _ (rd31_mem t.f3 i (by omega))) (m - c) (by omega) (by omega)
          obtain ⟨K2, r2, e2, b1, b2, b3⟩ := ihd (i + 1) (by omega) (c + r1) (by omega) (by omega)
          refine ⟨K1 + K2 + 1, r2, fun k hk => ?_, b1, b2, fun h => ⟨by have := (b3 h).1; omega, fun x hx => ?_⟩⟩
          · obtain ⟨k, rfl⟩ : ∃ m, k = m + 1 := ⟨k - 1, by omega⟩
            simp only [backseatref11_Count.l0]
            rw [if_pos (by omega), if_pos (by omega), if_pos (by omega), if_neg hcm, wrap_i (i := m - c) (by omega) (by omega), e1 k (by omega)]
            simp only [Option.bind_some]
            rw [wrap_i (i := c + r1) (by omega) (by omega), wrap_i (i := (i : Int) + 1) (by omega) (by omega), show ((i : Int) + 1) = ((i + 1 : Nat) : Int) by omega]
            exact e2 k (by omega)
          · rw [rd31_drop t.f3 i (by omega)] at hx
            rcases List.mem_cons.1 hx with rfl | hx
            · exact a3 (by have := (b3 h).1; omega)
            · exact (b3 h).2 x hx
    by_cases hm1 : 1 ≤ m + 1
    · obtain ⟨K, r, e, a1, a2, a3⟩ := loop t.f3.length 0 (by omega) 1 (by omega) hm1
      refine ⟨K + 1, r, fun k hk => ?_, a1, a2, fun h => ?_⟩
      · obtain ⟨k, rfl⟩ : ∃ m, k = m + 1 := ⟨k - 1, by omega⟩
        simp only [backseatref11_Count.f]
        exact e k (by omega)
      · obtain ⟨b1, b2⟩ := a3 h
        rw [List.drop_zero] at b2
        obtain ⟨d, hd⟩ := few_all t.f3 b2
        exact ⟨d + 1, by omega, hd⟩
    · omega
theorem rd44_get' (l : List S44) (i : Nat) (h : i < l.length) : rd_T44 l (i : Int) = l[i] := by
  unfold rd_T44
  rw [Int.toNat_natCast, List.getD_eq_getElem?_getD, List.getElem?_eq_getElem h, Option.getD_some]
theorem alive11 : ∀ k, 30 ≤ k → backseatlaw11_alive.f k = some true := by
  have h : backseatlaw11_alive.f 30 = some true := by decide +kernel
  exact mono_ge (fun k => backseatlaw11_alive.mono k) h
theorem apart_loops (w h : Int) (hw : w ≤ 80) (hh : h ≤ 80) (rs : List S44) (h8 : rs.length ≤ 8) (h1 : 1 ≤ rs.length) (hg : GoodR 0 0 w h rs) :
    ∀ d i k, i + d = rs.length → 20 * d + 40 ≤ k → backseatlaw11_TreeApart.l0 k w h rs rs (rs.length : Int) (i : Int) = some true := by
  intro d
  induction d with
  | zero =>
    intro i k hi hk
    obtain ⟨k, rfl⟩ : ∃ m, k = m + 1 := ⟨k - 1, by omega⟩
    simp only [backseatlaw11_TreeApart.l0]
    rw [if_neg (by omega), alive11 k (by omega)]
    simp only [Option.bind_some, if_true]
    rw [decide_eq_true (by omega)]
  | succ d ih =>
    intro i k hi hk
    have hm : ∀ j, j < rs.length → InBox 0 0 w h (rd_T44 rs (j : Int)) := fun j hj => hg.1 _ (by rw [rd44_get' rs j hj]; exact List.getElem_mem hj)
    have hp : ∀ j, j < i → Ap (rd_T44 rs (j : Int)) (rd_T44 rs (i : Int)) := by
      intro j hj
      rw [rd44_get' rs j (by omega), rd44_get' rs i (by omega)]
      exact (List.pairwise_iff_getElem.1 hg.2) j i (by omega) (by omega) hj
    obtain ⟨a1, a2, a3, a4, a5, a6⟩ := hm i (by omega)
    have inner : ∀ e j k, j + e = i → 20 * d + 40 + e + 1 ≤ k → backseatlaw11_TreeApart.l1 k w h rs rs (rs.length : Int) (i : Int) rs (i : Int) (j : Int) ((rd_T44 rs (i : Int)).f0) ((rd_T44 rs (i : Int)).f1) ((rd_T44 rs (i : Int)).f2) ((rd_T44 rs (i : Int)).f3) ((rd_T44 rs (i : Int)).f4) = some true := by
      intro e
      induction e with
      | zero =>
        intro j k hj hk
        obtain ⟨k, rfl⟩ : ∃ m, k = m + 1 := ⟨k - 1, by omega⟩
        simp only [backseatlaw11_TreeApart.l1]
        rw [if_neg (by omega), wrap_i (by omega) (by omega), show ((i : Int) + 1) = ((i + 1 : Nat) : Int) by omega]
        exact ih (i + 1) k (by omega) (by omega)
      | succ e ihe =>
        intro j k hj hk
        obtain ⟨k, rfl⟩ : ∃ m, k = m + 1 := ⟨k - 1, by omega⟩
        obtain ⟨b1, b2, b3, b4, b5, b6⟩ := hm j (by omega)
        have hap := hp j (by omega)
        have next := ihe (j + 1) k (by omega) (by omega)
        simp only [backseatlaw11_TreeApart.l1]
        rw [if_pos (by omega), if_pos (by omega), if_pos (by omega), wrap_i (i := (j : Int) + 1) (by omega) (by omega), show ((j : Int) + 1) = ((j + 1 : Nat) : Int) by omega, next]
        rw [wrap_i (i := (rd_T44 rs (i : Int)).f1 + _) (by omega) (by omega), wrap_i (i := (rd_T44 rs (j : Int)).f1 + _) (by omega) (by omega), wrap_i (i := (rd_T44 rs (i : Int)).f2 + _) (by omega) (by omega), wrap_i (i := (rd_T44 rs (j : Int)).f2 + _) (by omega) (by omega)]
        unfold Ap at hap
        split
        · rfl
        split
        · rfl
        split
        · rfl
        split
        · rfl
        · omega
    obtain ⟨k, rfl⟩ : ∃ m, k = m + 1 := ⟨k - 1, by omega⟩
    obtain ⟨k, rfl⟩ : ∃ m, k = m + 1 := ⟨k - 1, by omega⟩
    simp only [backseatlaw11_TreeApart.l0]
    rw [if_pos (by omega), if_pos (by omega), if_pos (by omega), if_neg (by omega), if_neg (by omega), if_neg (by omega), if_neg (by omega), wrap_i (by omega) (by omega), wrap_i (by omega) (by omega), if_neg (by omega), decide_eq_false (by omega)]
    simp only [backseatlaw11_TreeApart.j1]
    rw [if_neg (by decide)]
    exact inner i 0 k (by omega) (by omega)
theorem tsize_f (w h : Int) : tree_size.f w h = some (decide (1 ≤ w ∧ w ≤ 80 ∧ 1 ≤ h ∧ h ≤ 50)) := size_f w h
theorem TreeApart (a b c : Int) (l : List S31) (w h : Int) : ∃ k, backseatlaw11_TreeApart.f k a b c l w h = some true := by
  obtain ⟨K, r, e, r1, r2, r3⟩ := count_ends (SizeOf.sizeOf (⟨a, b, c, l⟩ : S31)) ⟨a, b, c, l⟩ (Nat.le_refl _) 60 (by omega) (by omega)
  by_cases hr : r > 60
  · refine ⟨K + 30, ?_⟩
    unfold backseatlaw11_TreeApart.f
    have e' : backseatref11_Count.f (K + 30) a b c l 60 = some r := e (K + 30) (by omega)
    rw [e']
    simp only [Option.bind_some]
    rw [if_pos hr, alive11 _ (by omega)]
    rfl
  obtain ⟨d, hd⟩ := r3 (by omega)
  refine ⟨K + 70 * d + 300, ?_⟩
  unfold backseatlaw11_TreeApart.f
  have e' : backseatref11_Count.f (K + 70 * d + 300) a b c l 60 = some r := e _ (by omega)
  rw [e']
  simp only [Option.bind_some]
  rw [if_neg hr]
  have no : tree_Right.f (K + 70 * d + 300) a b c l w h = some false → (tree_Rects.f (K + 70 * d + 300) a b c l w h).bind (fun bt556 => if bt556.2 = 0 then backseatlaw11_TreeApart.l0 (K + 70 * d + 300) w h bt556.1 bt556.1 (bt556.1.length : Int) 0 else (backseatlaw11_alive.f (K + 70 * d + 300)).bind fun t560 => if t560 = true then some ((bt556.1.length : Int) == 0) else some false) = some true := by
    intro hR
    unfold tree_Rects.f
    rw [hR]
    simp only [Option.bind_some]
    rw [if_neg (by decide)]
    simp only [Option.bind_some]
    rw [if_neg (by decide), alive11 _ (by omega)]
    rfl
  by_cases hs : 1 ≤ w ∧ w ≤ 80 ∧ 1 ≤ h ∧ h ≤ 50
  · obtain ⟨m, hm⟩ := made_ends d ⟨a, b, c, l⟩ hd w h 0
    have hm' : tree_made.f (K + 70 * d + 300) a b c l w h 0 = some m := hm _ (by omega)
    have hps := pAt_ends hd (K + 70 * d + 300) (by omega)
    cases m with
    | false =>
      refine no ?_
      unfold tree_Right.f
      rw [tsize_f, decide_eq_true hs]
      simp only [Option.bind_some, if_true]
      rw [hm']
      rfl
    | true =>
      have hR : tree_Right.f (K + 70 * d + 300) a b c l w h = some (goodP (pAt d ⟨a, b, c, l⟩)) := by
        unfold tree_Right.f
        rw [tsize_f, decide_eq_true hs]
        simp only [Option.bind_some, if_true]
        rw [hm']
        simp only [Option.bind_some, if_true]
        rw [hps]
        rfl
      cases hgp : goodP (pAt d ⟨a, b, c, l⟩) with
      | false => rw [hgp] at hR; exact no hR
      | true =>
        rw [hgp] at hR
        obtain ⟨g1, g2⟩ := good_of_made d ⟨a, b, c, l⟩ hd (K + 70 * d + 300) w h 0 hs.1 hs.2.1 hs.2.2.1 (by omega) hm'
        have h8 : (pAt d ⟨a, b, c, l⟩).length ≤ 8 := (of_decide_eq_true hgp).2
        obtain ⟨rs, q1, q2, q3⟩ := g2 h8 0 0 (by omega) (by omega) (by omega) (by omega)
        have hl : tree_lie.f (K + 70 * d + 300) a b c l 0 0 0 w h = some rs := q1 _ (by omega)
        unfold tree_Rects.f
        rw [hR]
        simp only [Option.bind_some, if_true]
        rw [hl]
        simp only [Option.bind_some]
        rw [if_pos trivial]
        exact apart_loops w h (by omega) (by omega) rs (by omega) (by omega) q3 rs.length 0 _ (by omega) (by omega)
  · refine no ?_
    unfold tree_Right.f
    rw [tsize_f, decide_eq_false hs]
    rfl
end Go.Proofs.Ytplngfammfdemaa
