-- Copies of the texts YtplngfammfdemaaML5, YtplngfammfdemaaML6 with what this claim does not reach left out (prune.py, a program of this project).
import Derived.Test.YtplngfammfdemaaZlGPanes
import Derived.Test.YtplngfammfdemaaZlQx26
section
namespace Go.Proofs.Ytplngfammfdemaa
open Go.RowKit Go.Proofs.YtplngfammfdemaaW.PrintWords Go.Proofs.YtplngfammfdemaaW.PrintMore Q
set_option linter.unusedVariables false
set_option linter.unusedSimpArgs false
theorem alive30 : ∀ k, 30 ≤ k → backseatlaw12_alive.f k = some true := by
  intro k hk
  induction k with
  | zero => omega
  | succ k ih =>
    by_cases h : k = 29
    · subst h; kernel_rfl
    · exact backseatlaw12_alive.mono k _ (ih (by omega))
theorem in_yes {a lo hi : Int} (h : lo ≤ a ∧ a ≤ hi) : preset_in.f a lo hi = some true := by
  unfold preset_in.f; rw [if_pos h.1, decide_eq_true h.2]
theorem in_no {a lo hi : Int} (h : ¬ (lo ≤ a ∧ a ≤ hi)) : preset_in.f a lo hi = some false := by
  unfold preset_in.f
  split
  · rw [decide_eq_false (by omega)]
  · rfl
theorem size_f (w h : Int) : tree_size.f w h = some (decide (1 ≤ w ∧ w ≤ 80 ∧ 1 ≤ h ∧ h ≤ 50)) := by
  unfold tree_size.f tree_in.f
  by_cases h1 : w ≥ 1
  · rw [if_pos h1, Option.bind_some]
    by_cases h2 : w ≤ 80
    · rw [if_pos (decide_eq_true h2)]
      by_cases h3 : h ≥ 1
      · rw [if_pos h3, Option.bind_some]
        congr 1
        rw [decide_eq_decide]; omega
      · rw [if_neg h3, Option.bind_some, decide_eq_false (by omega)]
    · rw [if_neg (by simpa using h2), decide_eq_false (by omega)]
  · rw [if_neg h1, Option.bind_some, if_neg (by decide), decide_eq_false (by omega)]
theorem rsize_f (w h : Int) : backseatref11_Size.f w h = some (decide (1 ≤ w ∧ w ≤ 80 ∧ 1 ≤ h ∧ h ≤ 50)) := by
  have := size_f w h
  unfold tree_size.f tree_in.f at this
  unfold backseatref11_Size.f backseatref11_in.f
  exact this
theorem right_leaf (w h : Int) (k : Nat) (hk : 2 ≤ k) : tree_Right.f k 0 1 0 [] w h = some (decide (1 ≤ w ∧ w ≤ 80 ∧ 1 ≤ h ∧ h ≤ 50)) := by
  obtain ⟨k, rfl⟩ : ∃ m, k = m + 1 := ⟨k - 1, by omega⟩
  unfold tree_Right.f
  rw [size_f, Option.bind_some]
  by_cases hs : 1 ≤ w ∧ w ≤ 80 ∧ 1 ≤ h ∧ h ≤ 50
  · rw [decide_eq_true hs, if_pos rfl]
    rfl
  · rw [decide_eq_false hs]; rfl
theorem rd_get (L : List Int) (i : Nat) (h : i < L.length) : rd L (i : Int) = L[i] := by
  unfold rd
  rw [Int.toNat_natCast, List.getD_eq_getElem?_getD, List.getElem?_eq_getElem h]; rfl
theorem idx_ne {a p : Int} {l : List Int} (h : a ≠ p) : (a :: l).idxOf p = l.idxOf p + 1 := by
  rw [List.idxOf_cons]
  rw [show (a == p) = false from beq_eq_false_iff_ne.2 h]; rfl
theorem idx_not {p : Int} {l : List Int} {j : Nat} (h : j < l.idxOf p) : l[j]'(Nat.lt_of_lt_of_le h List.idxOf_le_length) ≠ p := by
  have := List.not_of_lt_findIdx (p := (· == p)) (xs := l) h
  simpa using this
/-- The first of p from j on. -/
theorem index_from (L : List Int) (p : Int) (hlen : L.length ≤ 1000) : ∀ d i k, i + d = L.length → d < k → slices_Index_int_int.l0 k L p (L.length : Int) (i : Int) = some (if p ∈ L.drop i then (i : Int) + ((L.drop i).idxOf p : Nat) else -1) := by
  intro d
  induction d with
  | zero =>
    intro i k hi hk
    obtain ⟨k, rfl⟩ : ∃ m, k = m + 1 := ⟨k - 1, by omega⟩
    simp only [slices_Index_int_int.l0]
    rw [if_neg (by omega), List.drop_eq_nil_of_le (by omega), if_neg (by simp)]
  | succ d ih =>
    intro i k hi hk
    obtain ⟨k, rfl⟩ : ∃ m, k = m + 1 := ⟨k - 1, by omega⟩
    simp only [slices_Index_int_int.l0]
    rw [if_pos (by omega), if_pos (by omega), if_pos (by omega), rd_get L i (by omega), List.drop_eq_getElem_cons (by omega)]
    by_cases hp : p = L[i]'(by omega)
    · rw [if_pos hp, if_pos (by rw [← hp]; exact List.mem_cons_self), ← hp, List.idxOf_cons_self]
      simp
    · rw [if_neg hp, wrap_i (by omega) (by omega), show ((i : Int) + 1) = ((i + 1 : Nat) : Int) by omega, ih (i + 1) k (by omega) (by omega)]
      congr 1
      by_cases hm : p ∈ L.drop (i + 1)
      · rw [if_pos hm, if_pos (List.mem_cons_of_mem _ hm), idx_ne (fun e => hp e.symm)]
        omega
      · rw [if_neg hm, if_neg (by simp only [List.mem_cons, not_or]; exact ⟨hp, hm⟩)]
theorem contains_f (L : List Int) (p : Int) (hlen : L.length ≤ 1000) (k : Nat) (hk : L.length < k) : slices_Contains_int_int.f k L p = some (decide (p ∈ L)) := by
  unfold slices_Contains_int_int.f slices_Index_int_int.f
  have := index_from L p hlen L.length 0 k (by omega) hk
  rw [show ((0 : Nat) : Int) = 0 from rfl, List.drop_zero] at this
  rw [this, Option.bind_some]
  congr 1
  split
  · rename_i hm; rw [decide_eq_true hm, decide_eq_true (by omega)]
  · rename_i hm; rw [decide_eq_false hm, decide_eq_false (by omega)]
theorem at_from (L : List Int) (p : Int) (hlen : L.length ≤ 1000) : ∀ d i k, i + d = L.length → d < k → backseatref11_At.l0 k p L (L.length : Int) (i : Int) = some (if p ∈ L.drop i then (i : Int) + ((L.drop i).idxOf p : Nat) else -1) := by
  intro d
  induction d with
  | zero =>
    intro i k hi hk
    obtain ⟨k, rfl⟩ : ∃ m, k = m + 1 := ⟨k - 1, by omega⟩
    simp only [backseatref11_At.l0]
    rw [if_neg (by omega), List.drop_eq_nil_of_le (by omega), if_neg (by simp)]
  | succ d ih =>
    intro i k hi hk
    obtain ⟨k, rfl⟩ : ∃ m, k = m + 1 := ⟨k - 1, by omega⟩
    simp only [backseatref11_At.l0]
    rw [if_pos (by omega), if_pos (by omega), if_pos (by omega), rd_get L i (by omega), List.drop_eq_getElem_cons (by omega)]
    by_cases hp : L[i]'(by omega) = p
    · rw [if_pos hp, if_pos (by rw [← hp]; exact List.mem_cons_self), ← hp, List.idxOf_cons_self]
      simp
    · rw [if_neg hp, wrap_i (by omega) (by omega), show ((i : Int) + 1) = ((i + 1 : Nat) : Int) by omega, ih (i + 1) k (by omega) (by omega)]
      congr 1
      by_cases hm : p ∈ L.drop (i + 1)
      · rw [if_pos hm, if_pos (List.mem_cons_of_mem _ hm), idx_ne hp]
        omega
      · rw [if_neg hm, if_neg (by simp only [List.mem_cons, not_or]; exact ⟨fun e => hp e.symm, hm⟩)]
/-- Whether the pane at i was there before. -/
theorem at_first (L : List Int) (i : Nat) (hi : i < L.length) (hlen : L.length ≤ 1000) (k : Nat) (hk : L.length < k) : ∃ t, backseatref11_At.f k L (rd L (i : Int)) = some t ∧ (t = (i : Int) ↔ L[i] ∉ L.take i) := by
  have := at_from L L[i] hlen L.length 0 k (by omega) hk
  rw [show ((0 : Nat) : Int) = 0 from rfl, List.drop_zero] at this
  refine ⟨_, by unfold backseatref11_At.f; rw [rd_get L i hi]; exact this, ?_⟩
  rw [if_pos (List.getElem_mem hi)]
  constructor
  · intro h hm
    have h1 : L.idxOf L[i] = i := by omega
    have h2 : L.idxOf L[i] < i := by
      obtain ⟨j, hj, he⟩ := List.getElem_of_mem hm
      rw [List.length_take] at hj
      rw [List.getElem_take] at he
      have h3 : L.idxOf L[i] ≤ j := by
        rcases Nat.lt_or_ge j (L.idxOf L[i]) with h | h
        · exact absurd he (idx_not h)
        · exact h
      omega
    omega
  · intro hm
    have h1 : L.idxOf L[i] ≤ i := by
      rcases Nat.lt_or_ge i (L.idxOf L[i]) with h | h
      · exact absurd rfl (idx_not h)
      · exact h
    have h2 : ¬ L.idxOf L[i] < i := by
      intro h
      apply hm
      have he : L[L.idxOf L[i]]'(by omega) = L[i] := List.getElem_idxOf (by omega)
      rw [← he]
      rw [List.mem_take_iff_getElem]
      exact ⟨L.idxOf L[i], by omega, rfl⟩
    omega
end Go.Proofs.Ytplngfammfdemaa
end
section
namespace Go.Proofs.Ytplngfammfdemaa
open Go.RowKit Go.Proofs.YtplngfammfdemaaW.PrintWords Go.Proofs.YtplngfammfdemaaW.PrintMore Q
set_option linter.unusedVariables false
set_option linter.unusedSimpArgs false
/-- From i on the panes may be. -/
def okF (L : List Int) (i : Nat) : Prop := ∀ j (h : j < L.length), i ≤ j → (1 ≤ L[j] ∧ L[j] ≤ 999) ∧ L[j] ∉ L.take j
theorem okF_step {L : List Int} {i : Nat} (hi : i < L.length) : okF L i ↔ ((1 ≤ L[i] ∧ L[i] ≤ 999) ∧ L[i] ∉ L.take i) ∧ okF L (i + 1) := by
  constructor
  · intro h
    exact ⟨h i hi (Nat.le_refl _), fun j hj hij => h j hj (by omega)⟩
  · rintro ⟨h1, h2⟩ j hj hij
    rcases Nat.lt_or_ge i j with h | h
    · exact h2 j hj h
    · have : i = j := by omega
      subst this
      exact h1
def laid (x : Option R5) : Option (Int × Int × Int × List S31 × Int) := x.bind fun bt308 => (if bt308.2.2.2.2 = true then (some (bt308.1, bt308.2.1, bt308.2.2.1, bt308.2.2.2.1, 0)) else (some (0, 0, 0, ([] : List (S31)), 9)))
theorem lay_loop (L : List Int) (h8 : L.length ≤ 10) (how w h : Int) : ∀ d i k, i + d = L.length → 20 + d < k →
    (okF L i → ∃ k', k ≤ k' + d + 1 ∧ preset_Lay.l0 k L how w h L (L.length : Int) (i : Int) = laid (preset_layHow.f k' (wrap64 (how - 1)) w h L)) ∧ (¬ okF L i → preset_Lay.l0 k L how w h L (L.length : Int) (i : Int) = some (0, 0, 0, [], 1)) := by
  intro d
  induction d with
  | zero =>
    intro i k hi hk
    obtain ⟨k, rfl⟩ : ∃ m, k = m + 1 := ⟨k - 1, by omega⟩
    simp only [preset_Lay.l0]
    rw [if_neg (by omega)]
    exact ⟨fun _ => ⟨k, by omega, rfl⟩, fun h => absurd (fun j hj hij => by omega) h⟩
  | succ d ih =>
    intro i k hi hk
    obtain ⟨k, rfl⟩ : ∃ m, k = m + 1 := ⟨k - 1, by omega⟩
    have hil : i < L.length := by omega
    simp only [preset_Lay.l0]
    rw [if_pos (by omega), if_pos (by omega), if_pos (by omega), rd_get L i hil, okF_step hil]
    by_cases hr : 1 ≤ L[i] ∧ L[i] ≤ 999
    · rw [in_yes hr, Option.bind_some, if_pos rfl, if_pos (by omega), Int.toNat_natCast, contains_f (L.take i) L[i] (by rw [List.length_take]; omega) k (by rw [List.length_take]; omega), Option.bind_some]
      by_cases hm : L[i] ∈ L.take i
      · rw [decide_eq_true hm, if_pos rfl]
        exact ⟨fun h => absurd hm h.1.2, fun _ => rfl⟩
      · rw [decide_eq_false hm, if_neg (by decide), wrap_i (by omega) (by omega), show ((i : Int) + 1) = ((i + 1 : Nat) : Int) by omega]
        obtain ⟨h1, h2⟩ := ih (i + 1) k (by omega) (by omega)
        refine ⟨fun h => ?_, fun h => h2 (fun ho => h ⟨⟨hr, hm⟩, ho⟩)⟩
        obtain ⟨k', hk', he⟩ := h1 h.2
        exact ⟨k', by omega, he⟩
    · rw [in_no hr, Option.bind_some, if_neg (by decide)]
      exact ⟨fun h => absurd h.1.1 hr, fun _ => rfl⟩
theorem may_loop (L : List Int) (h8 : L.length ≤ 10) (how w h : Int) : ∀ d i k, i + d = L.length → 20 + d < k →
    (okF L i → backseatref12_May.l0 k L how w h L (L.length : Int) (i : Int) = some (decide (1 ≤ L.length ∧ L.length ≤ 8 ∧ 1 ≤ how ∧ how ≤ 5 ∧ 1 ≤ w ∧ w ≤ 80 ∧ 1 ≤ h ∧ h ≤ 50))) ∧ (¬ okF L i → backseatref12_May.l0 k L how w h L (L.length : Int) (i : Int) = some false) := by
  intro d
  induction d with
  | zero =>
    intro i k hi hk
    obtain ⟨k, rfl⟩ : ∃ m, k = m + 1 := ⟨k - 1, by omega⟩
    simp only [backseatref12_May.l0]
    rw [if_neg (by omega)]
    refine ⟨fun _ => ?_, fun h => absurd (fun j hj hij => by omega) h⟩
    by_cases a1 : (L.length : Int) ≥ 1
    · rw [if_pos a1]
      by_cases a2 : (L.length : Int) ≤ 8
      · rw [if_pos a2]
        by_cases a3 : how ≥ 1
        · rw [if_pos a3]
          by_cases a4 : how ≤ 5
          · rw [if_pos a4, rsize_f, Option.bind_some]
            congr 1
            rw [decide_eq_decide]; omega
          · rw [if_neg a4, decide_eq_false (by omega)]
        · rw [if_neg a3, decide_eq_false (by omega)]
      · rw [if_neg a2, decide_eq_false (by omega)]
    · rw [if_neg a1, decide_eq_false (by omega)]
  | succ d ih =>
    intro i k hi hk
    obtain ⟨k, rfl⟩ : ∃ m, k = m + 1 := ⟨k - 1, by omega⟩
    have hil : i < L.length := by omega
    obtain ⟨t, ht, hti⟩ := at_first L i hil (by omega) k (by omega)
    simp only [backseatref12_May.l0]
    rw [if_pos (by omega), if_pos (by omega), if_pos (by omega), ht, rd_get L i hil, okF_step hil]
    by_cases b1 : L[i] < 1
    · rw [if_pos b1]
      exact ⟨fun h => absurd h.1.1.1 (by omega), fun _ => rfl⟩
    · rw [if_neg b1]
      by_cases b2 : L[i] > 999
      · rw [if_pos b2]
        exact ⟨fun h => absurd h.1.1.2 (by omega), fun _ => rfl⟩
      · rw [if_neg b2, Option.bind_some]
        by_cases b3 : t = (i : Int)
        · rw [if_pos b3, wrap_i (by omega) (by omega), show ((i : Int) + 1) = ((i + 1 : Nat) : Int) by omega]
          obtain ⟨h1, h2⟩ := ih (i + 1) k (by omega) (by omega)
          exact ⟨fun h => h1 h.2, fun h => h2 (fun ho => h ⟨⟨⟨by omega, by omega⟩, hti.1 b3⟩, ho⟩)⟩
        · rw [if_neg b3]
          exact ⟨fun h => absurd (hti.2 h.1.2) b3, fun _ => rfl⟩
theorem Ag_fuel {N K0 : Nat} {x y : Nat → Option R5} (h : Ag N (x K0) (y K0)) (hx : ∀ k, LeO (x k) (x (k + 1))) (hy : ∀ k, LeO (y k) (y (k + 1))) {k1 k2 : Nat} (h1 : K0 ≤ k1) (h2 : K0 ≤ k2) : Ag N (x k1) (y k2) := by
  obtain ⟨a, b, ha, hb, r⟩ := h
  exact ⟨a, b, mono_ge hx ha k1 h1, mono_ge hy hb k2 h2, r⟩
/-- Whatever may be is laid as the document says. -/
theorem how_ag (L : List Int) (h1 : 1 ≤ L.length) (h8 : L.length ≤ 8) (how w h : Int) (hh1 : 1 ≤ how) (hh5 : how ≤ 5) (hw1 : 1 ≤ w) (hw : w ≤ 80) (hb1 : 1 ≤ h) (hb : h ≤ 50) (k1 k2 : Nat) (hk1 : 150 ≤ k1) (hk2 : 151 ≤ k2) :
    Ag 40 (preset_layHow.f k1 (wrap64 (how - 1)) w h L) (backseatref12_Lay.f k2 L how w h) := by
  obtain ⟨k2, rfl⟩ : ∃ m, k2 = m + 1 := ⟨k2 - 1, by omega⟩
  rw [wrap_i (by omega) (by omega)]
  unfold preset_layHow.f backseatref12_Lay.f
  have e2 : wrap64 (how - 2) = how - 2 := wrap_i (by omega) (by omega)
  rcases (show how = 1 ∨ how = 2 ∨ how = 3 ∨ how = 4 ∨ how = 5 by omega) with rfl | rfl | rfl | rfl | rfl
  · rw [if_pos (by omega), if_pos rfl, backseatref12_Lay.j0, if_pos rfl, bind5]
    exact Ag_fuel (Ag_mono (row_ag L h1 h8 w h (by omega) hw 120 (Nat.le_refl _)) (by omega)) (fun k => preset_size_row.mono _ _ _ k) (fun k => backseatref12_Line.mono _ _ _ _ k) (by omega) (by omega)
  · rw [if_neg (by omega), if_pos (by omega), if_neg (by omega), backseatref12_Lay.j0, if_pos (by decide), bind5]
    exact Ag_fuel (Ag_mono (pile_ag L h1 h8 w h (by omega) (by omega) 120 (Nat.le_refl _)) (by omega)) (fun k => preset_size_pile.mono _ _ _ k) (fun k => backseatref12_Line.mono _ _ _ _ k) (by omega) (by omega)
  · rw [if_neg (by omega), if_neg (by omega), if_pos (by omega), if_neg (by omega), backseatref12_Lay.j0, if_neg (by decide), if_neg (by omega), bind5, e2]
    exact Ag_fuel (left_ag L h1 h8 w h hw1 hw hb1 (by omega) 130 (Nat.le_refl _)) (fun k => preset_size_left.mono _ _ _ k) (fun k => backseatref12_Main.mono _ _ _ _ k) (by omega) (by omega)
  · rw [if_neg (by omega), if_neg (by omega), if_neg (by omega), if_pos (by omega), if_neg (by omega), backseatref12_Lay.j0, if_neg (by decide), if_neg (by omega), bind5, e2]
    exact Ag_fuel (top_ag L h1 h8 w h hw1 hw hb1 (by omega) 130 (Nat.le_refl _)) (fun k => preset_size_top.mono _ _ _ k) (fun k => backseatref12_Main.mono _ _ _ _ k) (by omega) (by omega)
  · rw [if_neg (by omega), if_neg (by omega), if_neg (by omega), if_neg (by omega), if_pos (by omega), if_neg (by omega), backseatref12_Lay.j0, if_neg (by decide), if_pos rfl, bind5]
    exact Ag_fuel (rows_ag L h1 h8 w h (by omega) hw (by omega) (by omega) 150 (Nat.le_refl _)) (fun k => preset_size_rows.mono _ _ _ k) (fun k => backseatref12_Rows.mono _ _ _ k) (by omega) (by omega)
def MayP (L : List Int) (how w h : Int) : Prop := okF L 0 ∧ (1 ≤ L.length ∧ L.length ≤ 8 ∧ 1 ≤ how ∧ how ≤ 5 ∧ 1 ≤ w ∧ w ≤ 80 ∧ 1 ≤ h ∧ h ≤ 50)
theorem lay_refuses (L : List Int) (h10 : L.length ≤ 10) (how w h : Int) (hn : ¬ MayP L how w h) : preset_Lay.f 300 L how w h = some (0, 0, 0, [], 1) := by
  have hj : ∀ b, b = true → preset_Lay.j0 300 L how w h b = some (0, 0, 0, [], 1) := by
    rintro _ rfl
    rw [show (300 : Nat) = 299 + 1 from rfl, preset_Lay.j0, if_pos rfl]
  unfold preset_Lay.f
  by_cases a1 : 1 ≤ (L.length : Int) ∧ (L.length : Int) ≤ 8
  · rw [in_yes a1, Option.bind_some, if_pos rfl]
    by_cases a2 : 1 ≤ how ∧ how ≤ 5
    · rw [in_yes a2, Option.bind_some, if_pos rfl, right_leaf w h 300 (by omega), Option.bind_some]
      by_cases a3 : 1 ≤ w ∧ w ≤ 80 ∧ 1 ≤ h ∧ h ≤ 50
      · rw [decide_eq_true a3, show (300 : Nat) = 299 + 1 from rfl, preset_Lay.j0, if_neg (by decide)]
        have := (lay_loop L h10 how w h L.length 0 299 (by omega) (by omega)).2 (fun ho => hn ⟨ho, by omega, by omega, a2.1, a2.2, a3⟩)
        exact this
      · rw [decide_eq_false a3]; exact hj _ rfl
    · rw [in_no a2, Option.bind_some, if_neg (by decide)]; exact hj _ rfl
  · rw [in_no a1, Option.bind_some, if_neg (by decide)]; exact hj _ rfl
theorem lay_lays (L : List Int) (how w h : Int) (hm : MayP L how w h) : ∃ k', 280 ≤ k' ∧ preset_Lay.f 300 L how w h = laid (preset_layHow.f k' (wrap64 (how - 1)) w h L) := by
  obtain ⟨ho, h1, h8, a1, a2, a3⟩ := hm
  unfold preset_Lay.f
  rw [in_yes (by omega), Option.bind_some, if_pos rfl, in_yes ⟨a1, a2⟩, Option.bind_some, if_pos rfl, right_leaf w h 300 (by omega), Option.bind_some, decide_eq_true a3, show (300 : Nat) = 299 + 1 from rfl, preset_Lay.j0, if_neg (by decide)]
  obtain ⟨k', hk', he⟩ := (lay_loop L (by omega) how w h L.length 0 299 (by omega) (by omega)).1 ho
  exact ⟨k', by omega, he⟩
theorem may_f (L : List Int) (h10 : L.length ≤ 10) (how w h : Int) [Decidable (MayP L how w h)] : backseatref12_May.f 300 L how w h = some (decide (MayP L how w h)) := by
  unfold backseatref12_May.f
  obtain ⟨h1, h2⟩ := may_loop L h10 how w h L.length 0 300 (by omega) (by omega)
  by_cases ho : okF L 0
  · refine (h1 ho).trans ?_
    congr 1
    rw [decide_eq_decide]
    exact ⟨fun h => ⟨ho, h⟩, fun h => h.2⟩
  · refine (h2 ho).trans ?_
    rw [decide_eq_false (fun h => ho h.1)]
theorem same_nil (k : Nat) (hk : 10 ≤ k) : backseatref11_Same.f k 0 0 0 [] 0 0 0 [] = some true := same_node 0 0 0 [] (by simp) (by simp) 0 0 k (by simp; omega)
theorem PresetLays (l0 : List Int) (how w h : Int) : ∃ k, backseatlaw12_PresetLays.f k l0 how w h = some true := by
  refine ⟨300, ?_⟩
  have hmn : mn (l0.length : Int) 10 = ((min l0.length 10 : Nat) : Int) := by
    unfold mn; split <;> omega
  unfold backseatlaw12_PresetLays.f
  rw [hmn, Int.toNat_natCast, if_pos (by omega), if_pos (by omega)]
  have h10 : (l0.take (min l0.length 10)).length ≤ 10 := by rw [List.length_take]; omega
  generalize l0.take (min l0.length 10) = L at h10
  by_cases hm : MayP L how w h
  · obtain ⟨k', hk', he⟩ := lay_lays L how w h hm
    haveI : Decidable (MayP L how w h) := .isTrue hm
    rw [he, may_f L h10, decide_eq_true hm]
    obtain ⟨ho, h1, h8, a1, a2, a3, a4, a5, a6⟩ := hm
    obtain ⟨a, b, ha, hb, hi, hy, hf⟩ := how_ag L h1 h8 how w h a1 a2 a3 a4 a5 a6 k' 300 (by omega) (by omega)
    rw [ha, hb]
    unfold laid
    simp only [Option.bind_some, if_true]
    rw [alive30 300 (by omega)]
    by_cases ht : a.2.2.2.2 = true
    · obtain ⟨rfl, hs⟩ := hy ht
      rw [if_pos ht]
      simp only [Option.bind_some]
      rw [if_pos ht]
      simp only [if_true]
      rw [hs a.2.2.1 a.2.2.1 300 (by omega)]
      rfl
    · rw [if_neg ht]
      simp only [Option.bind_some]
      rw [if_neg (by rw [← hi]; exact ht)]
      simp only [if_true]
      rw [same_nil 300 (by omega)]
      rfl
  · haveI : Decidable (MayP L how w h) := .isFalse hm
    rw [lay_refuses L h10 how w h hm, may_f L h10, decide_eq_false hm]
    simp only [Option.bind_some]
    rw [if_neg (by decide), alive30 300 (by omega)]
    simp only [Option.bind_some, if_true]
    rw [same_nil 300 (by omega)]
    rfl
end Go.Proofs.Ytplngfammfdemaa
end
