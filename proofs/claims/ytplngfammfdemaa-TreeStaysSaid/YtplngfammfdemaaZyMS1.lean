-- A copy of the text YtplngfammfdemaaMS1 with what this claim does not reach left out (prune.py, a program of this project).
import Derived.Test.YtplngfammfdemaaZyTS2
import Derived.Test.YtplngfammfdemaaZyMS0
namespace Go.Proofs.Ytplngfammfdemaa
open Go.RowKit Go.Proofs.YtplngfammfdemaaW.PrintWords Go.Proofs.YtplngfammfdemaaW.PrintMore Q
set_option linter.unusedVariables false
set_option linter.unusedSimpArgs false
theorem made_inv1 {k : Nat} {t : S31} {w h deep : Int} (H : tree_made.f k t.f0 t.f1 t.f2 t.f3 w h deep = some true) : (t.f0 = 0 → 1 ≤ t.f1 ∧ t.f1 ≤ 999) ∧ (t.f0 ≠ 0 → t.f1 = 0) := by
  cases k with
  | zero => simp [tree_made.f] at H
  | succ k =>
    simp only [tree_made.f] at H
    by_cases h0 : t.f0 = 0
    · rw [if_pos h0] at H
      refine ⟨fun _ => ?_, fun e => absurd h0 e⟩
      by_cases hl : (t.f3.length : Int) = 0
      · rw [if_pos hl] at H
        obtain ⟨b, hb⟩ := tin_some t.f1 1 999
        rw [hb] at H
        simp only [Option.bind_some] at H
        cases b with
        | true => exact tin_iff hb
        | false => simp at H
      · rw [if_neg hl] at H; simp at H
    · rw [if_neg h0] at H
      refine ⟨fun e => absurd e h0, fun _ => ?_⟩
      obtain ⟨b, hb⟩ := tin_some t.f0 1 2
      have jt : tree_made.j0 k w h deep true t.f0 t.f1 t.f2 t.f3 ≠ some true := by
        cases k with
        | zero => simp [tree_made.j0]
        | succ k => simp [tree_made.j0]
      rw [hb] at H
      simp only [Option.bind_some] at H
      cases b with
      | false => rw [if_neg (by decide)] at H; exact absurd H jt
      | true =>
        rw [if_pos rfl] at H
        by_cases h1 : t.f1 = 0
        · exact h1
        · rw [if_neg h1] at H; exact absurd H jt
theorem made_mk : ∀ (d : Nat) (t : S31), Few d t → ∀ (k : Nat) (w h deep : Int), tree_made.f k t.f0 t.f1 t.f2 t.f3 w h deep = some true → Mk d t w h := by
  intro d
  induction d with
  | zero => intro t ht; exact ht.elim
  | succ d ih =>
    intro t ht k w h deep H
    obtain ⟨i1, i2⟩ := made_inv1 H
    rcases made_inv ht.1 H with ⟨h0, h3⟩ | ⟨hkind, h2, hk, hs⟩
    · exact .inl ⟨h0, h3, (i1 h0).1, (i1 h0).2⟩
    · refine .inr ⟨hkind, i2 (by omega), h2, fun x hx => ?_, hs⟩
      obtain ⟨q1, q2, q3, k', q4⟩ := hk x hx
      exact ⟨q1, q2, q3, ih x (ht.2 x hx) k' _ _ _ q4⟩
theorem panes_mk : ∀ (d : Nat) (t : S31) (w h : Int), Mk d t w h → 1 ≤ w → w ≤ 80 → 1 ≤ h → h ≤ 80 → ∀ k, d ≤ k → panesK k t = some (psR d t) := by
  intro d
  induction d with
  | zero => intro t w h hm; exact hm.elim
  | succ d ih =>
    intro t w h hm w1 w8 h1 h8 k hk
    obtain ⟨k, rfl⟩ : ∃ m, k = m + 1 := ⟨k - 1, by omega⟩
    simp only [panesK]
    by_cases h0 : t.f0 = 0
    · rw [if_pos h0]
      unfold psR
      rw [if_pos h0]
    · rw [if_neg h0, if_pos (by have := mk_kids hm w8 h8; omega)]
      obtain ⟨_, _, _, hkk, _⟩ := hm.kids h0
      rw [allK_flat (psR d) (panesK k) t.f3 (fun x hx => ?_)]
      · unfold psR
        rw [if_neg h0]
        try rfl
      · obtain ⟨_, b, c, e⟩ := hkk x hx
        obtain ⟨p, q, r, s⟩ := kid_box (kind := t.f0) b c w1 w8 h1 h8
        exact ih x _ _ e p q r s k (by omega)
theorem mk_made : ∀ (d : Nat) (t : S31) (w h deep : Int), Mk d t w h → 1 ≤ w → w ≤ 80 → 1 ≤ h → h ≤ 80 → (psR d t).length ≤ 8 → 0 ≤ deep → deep + d ≤ 9 → ∃ K, MadeAt K t w h deep := by
  intro d
  induction d with
  | zero => intro t w h deep hm; exact hm.elim
  | succ d ih =>
    intro t w h deep hm w1 w8 h1 h8 hp hd0 hd
    by_cases h0 : t.f0 = 0
    · rcases hm with hm | hm
      · obtain ⟨a, b, c, e⟩ := hm
        have := made_leaf t.f1 t.f2 w h deep ⟨c, e⟩
        obtain ⟨f0, f1, f2, f3⟩ := t
        simp only at a b
        subst a; subst b
        exact ⟨1, this⟩
      · omega
    · obtain ⟨hkd, hf1, h2, hkk, hs⟩ := hm.kids h0
      have hps : psR (d + 1) t = t.f3.flatMap (psR d) := psR_node d h0
      rw [hps] at hp
      have hone : ∀ x ∈ t.f3, 1 ≤ (psR d x).length := fun x hx => ps_pos d x _ _ (hkk x hx).2.2.2
      have hl := flat_less t.f3 (psR d) hone h2
      have hlen : t.f3.length ≤ (t.f3.flatMap (psR d)).length := by
        have : ∀ l : List S31, (∀ x ∈ l, 1 ≤ (psR d x).length) → l.length ≤ (l.flatMap (psR d)).length := by
          intro l
          induction l with
          | nil => intro _; simp
          | cons x l ihl =>
            intro hl
            rw [List.flatMap_cons, List.length_append, List.length_cons]
            have := hl x (List.mem_cons_self ..)
            have := ihl (fun y hy => hl y (List.mem_cons_of_mem _ hy))
            omega
        exact this t.f3 hone
      have hall : ∀ l : List S31, (∀ x ∈ l, ∃ K, MadeAt K x (kw t.f0 x w) (kh t.f0 x h) (deep + 1)) → ∃ K, ∀ x ∈ l, MadeAt K x (kw t.f0 x w) (kh t.f0 x h) (deep + 1) := by
        intro l
        induction l with
        | nil => intro _; exact ⟨0, fun x hx => by cases hx⟩
        | cons y l ihl =>
          intro hl
          obtain ⟨K1, q1⟩ := hl y (List.mem_cons_self ..)
          obtain ⟨K2, q2⟩ := ihl (fun x hx => hl x (List.mem_cons_of_mem _ hx))
          refine ⟨K1 + K2, fun x hx k hk => ?_⟩
          rcases List.mem_cons.1 hx with rfl | hx
          · exact q1 k (by omega)
          · exact q2 x hx k (by omega)
      obtain ⟨K, hK⟩ := hall t.f3 (fun x hx => by
        obtain ⟨_, b, c, e⟩ := hkk x hx
        obtain ⟨p, q, r, s⟩ := kid_box (kind := t.f0) b c w1 w8 h1 h8
        exact ih x _ _ (deep + 1) e p q r s (by have := hl x hx; omega) (by omega) (by omega))
      exact ⟨_, made_node K t.f0 t.f1 t.f2 t.f3 w h deep hkd hf1 h2 (by omega) hd0 (by omega) (fun x hx => ⟨(hkk x hx).1, (hkk x hx).2.1, (hkk x hx).2.2.1, hK x hx⟩) hs⟩
/-- The program's answer, for a tree that may be. -/
theorem right_yes {t : S31} {w h : Int} (hr : RightT t w h) : ∃ K, ∀ k, K ≤ k → tree_Right.f k t.f0 t.f1 t.f2 t.f3 w h = some true := by
  have h5 := hr.h5
  have hf := hr.few
  obtain ⟨K, hK⟩ := mk_made (psA t).length t w h 0 hr.ok hr.w1 hr.w8 hr.h1 (by omega) (by rw [ps_at hr]; exact hr.few) (by omega) (by omega)
  refine ⟨K + 20, fun k hk => ?_⟩
  have hp := panes_mk (psA t).length t w h hr.ok hr.w1 hr.w8 hr.h1 (by omega) k (by omega)
  rw [ps_at hr] at hp
  unfold tree_Right.f
  rw [size_f, decide_eq_true ⟨hr.w1, hr.w8, hr.h1, hr.h5⟩, Option.bind_some, if_pos rfl, hK k (by omega), Option.bind_some, if_pos rfl, eta31, hp, Option.bind_some]
  unfold goodP
  rw [decide_eq_true ⟨hr.nd, hr.few⟩]
/-- What the program says of any tree. -/
theorem right_told {t : S31} {d : Nat} (hd : Few d t) (w h : Int) : ∃ K b, (∀ k, K ≤ k → tree_Right.f k t.f0 t.f1 t.f2 t.f3 w h = some b) ∧ (b = true → RightT t w h) := by
  by_cases hs : 1 ≤ w ∧ w ≤ 80 ∧ 1 ≤ h ∧ h ≤ 50
  · obtain ⟨r, hr⟩ := made_ends d t hd w h 0
    obtain ⟨ps, hps⟩ := panes_ends d t hd
    cases r with
    | false =>
      refine ⟨70 * d, false, fun k hk => ?_, fun e => by cases e⟩
      unfold tree_Right.f
      rw [size_f, decide_eq_true hs, Option.bind_some, if_pos rfl, hr k hk, Option.bind_some]
      rfl
    | true =>
      have hm := made_mk d t hd _ w h 0 (hr _ (Nat.le_refl _))
      have hps2 := panes_mk d t w h hm hs.1 hs.2.1 hs.2.2.1 (by omega) d (Nat.le_refl _)
      rw [hps d (Nat.le_refl _)] at hps2
      obtain rfl := Option.some.inj hps2
      refine ⟨70 * d + d, goodP (psR d t), fun k hk => ?_, fun e => ?_⟩
      · unfold tree_Right.f
        rw [size_f, decide_eq_true hs, Option.bind_some, if_pos rfl, hr k (by omega), Option.bind_some, if_pos rfl, eta31, hps k (by omega), Option.bind_some]
      · unfold goodP at e
        obtain ⟨e1, e2⟩ := of_decide_eq_true e
        have hm2 := mk_few d t w h hm
        have hpa : psA t = psR d t := by rw [psA_of hm2 (by omega)]; exact (ps_fuel _ (d + (psR d t).length) t w h hm2 (by omega)).symm.trans (ps_fuel d (d + (psR d t).length) t w h hm (by omega))
        exact ⟨by rw [hpa]; exact hm2, by rw [hpa]; exact e1, by rw [hpa]; exact e2, hs.1, hs.2.1, hs.2.2.1, hs.2.2.2⟩
  · refine ⟨0, false, fun k _ => ?_, fun e => by cases e⟩
    unfold tree_Right.f
    rw [size_f, decide_eq_false hs]
    rfl
end Go.Proofs.Ytplngfammfdemaa
