-- A copy of the text YtplngfammfdemaaML1 with what this claim does not reach left out (prune.py, a program of this project).
import Derived.Test.YtplngfammfdemaaZlQx7
import Derived.Test.YtplngfammfdemaaZlQx17
import Derived.Test.YtplngfammfdemaaZlQx23
namespace Go.Proofs.Ytplngfammfdemaa
open Go.RowKit Go.Proofs.YtplngfammfdemaaW.PrintWords Q
set_option linter.unusedVariables false
set_option linter.unusedSimpArgs false
theorem wrap_i {i : Int} (h0 : -1000000000 ≤ i) (h1 : i ≤ 1000000000) : wrap64 i = i := by unfold wrap64; omega
theorem mono_ge {α : Type} {f : Nat → Option α} (hm : ∀ k, LeO (f k) (f (k + 1))) {k : Nat} {r : α} (h : f k = some r) : ∀ k', k ≤ k' → f k' = some r := by
  intro k' hk
  obtain ⟨d, rfl⟩ := Nat.exists_eq_add_of_le hk
  clear hk
  induction d with
  | zero => exact h
  | succ d ih => exact hm _ _ ih
def evCk (c m : Nat) : Bool :=
  match backseatref12_Even.f 100 (c : Int) (m : Int), preset_Even.f 100 (c : Int) (m : Int) with
  | some l, some (l2, e) => if l = [] then decide (e ≠ 0) else decide (e = 0) && decide (l2 = l) && decide (l.length = m) && l.all (fun x => decide (1 ≤ x ∧ x ≤ 80))
  | _, _ => false
set_option maxRecDepth 1000000 in
theorem evCk_all : ∀ c : Nat, c < 81 → ∀ m : Nat, m < 9 → m = 0 ∨ evCk c m = true := by decide +kernel
/-- Both share out alike. -/
theorem even_both {c : Int} {m : Nat} (h0 : 0 ≤ c) (h1 : c ≤ 80) (hm : 1 ≤ m) (hm8 : m ≤ 8) : ∃ l e l2, (∀ k, 100 ≤ k → backseatref12_Even.f k c (m : Int) = some l) ∧ (∀ k, 100 ≤ k → preset_Even.f k c (m : Int) = some (l2, e)) ∧ ((l = [] ∧ e ≠ 0) ∨ (l ≠ [] ∧ e = 0 ∧ l2 = l ∧ l.length = m ∧ ∀ x ∈ l, 1 ≤ x ∧ x ≤ 80)) := by
  obtain ⟨n, rfl⟩ := Int.eq_ofNat_of_zero_le h0
  have h := (evCk_all n (by omega) m (by omega)).resolve_left (by omega)
  unfold evCk at h
  split at h
  · rename_i l l2 e h2 h3
    refine ⟨l, e, l2, mono_ge (fun k => backseatref12_Even.mono _ _ k) h2, mono_ge (fun k => preset_Even.mono _ _ k) h3, ?_⟩
    split at h
    · rename_i hl
      exact .inl ⟨hl, of_decide_eq_true h⟩
    · rename_i hl
      simp only [Bool.and_eq_true, decide_eq_true_eq, List.all_eq_true] at h
      exact .inr ⟨hl, h.1.1.1, h.1.1.2, h.1.2, h.2⟩
  · cases h
def kidsFrom (L S : List Int) (i d : Nat) : List S31 := (List.range' i d).map fun j : Nat => ⟨0, rd L (j : Int), rd S (j : Int), []⟩
theorem kidsFrom_succ (L S : List Int) (i d : Nat) : kidsFrom L S i (d + 1) = (⟨0, rd L (i : Int), rd S (i : Int), []⟩ : S31) :: kidsFrom L S (i + 1) d := by simp [kidsFrom, List.range'_succ]
theorem kidsFrom_length (L S : List Int) (i d : Nat) : (kidsFrom L S i d).length = d := by simp [kidsFrom]
theorem layPane_F (k : Nat) (w h : Int) (l : List Int) : layPane.F k w h l = preset_size_pane.f w h l := rfl
theorem chunk_one (L : List Int) (n i : Nat) (h : i < n) (hn : n = L.length) : rd_L2 (chunksN 1 n L) (i : Int) = [rd L (i : Int)] := by
  unfold rd_L2 chunksN
  rw [Int.toNat_natCast, List.getD_eq_getElem?_getD, List.getElem?_map, List.getElem?_range h, Option.map_some, Option.getD_some]
  unfold chunkAt rd
  rw [Nat.mul_one, Int.toNat_natCast, List.getD_eq_getElem?_getD, List.getElem?_eq_getElem (by omega), Option.getD_some, List.drop_eq_getElem_cons (by omega)]
  rfl
theorem chunksN_length (m K : Nat) (L : List Int) : (chunksN m K L).length = K := by simp [chunksN]
theorem pane_one (a b p : Int) : preset_size_pane.f a b [p] = some (0, p, 0, [], true) := rfl
/-- The program's loop over panes, one by one. -/
theorem shared_loop (L S : List Int) (n : Nat) (hn : n = L.length) (hS : S.length = n) (h8 : n ≤ 8) (kind a b : Int) : ∀ d i acc k, i + d = n → acc.length = i → d < k → preset_sharedG.l0 layPane k kind S (chunksN 1 n L) (n : Int) (i : Int) a b kind 0 0 acc = some (kind, 0, 0, acc ++ kidsFrom L S i d, true) := by
  intro d
  induction d with
  | zero =>
    intro i acc k hi ha hk
    obtain ⟨k, rfl⟩ : ∃ m, k = m + 1 := ⟨k - 1, by omega⟩
    simp only [preset_sharedG.l0]
    rw [if_neg (by omega)]
    simp [kidsFrom]
  | succ d ih =>
    intro i acc k hi ha hk
    obtain ⟨k, rfl⟩ : ∃ m, k = m + 1 := ⟨k - 1, by omega⟩
    simp only [preset_sharedG.l0]
    rw [if_pos (by omega), if_pos (by omega), if_pos (by rw [chunksN_length]; omega), if_pos (by omega)]
    have hw : ∃ x y, preset_size_with.f a b kind (rd S (i : Int)) = some (x, y) := by
      unfold preset_size_with.f
      split <;> exact ⟨_, _, rfl⟩
    obtain ⟨x, y, hw⟩ := hw
    rw [hw]
    simp only [Option.bind_some, layPane_F]
    rw [chunk_one L n i (by omega) hn, pane_one]
    simp only [Option.bind_some, if_true]
    rw [if_pos (by omega), wrap_i (by omega) (by omega), show ((i : Int) + 1) = ((i + 1 : Nat) : Int) by omega, ih (i + 1) _ k (by omega) (by simp [ha]) (by omega), kidsFrom_succ]
    simp
/-- The document's. -/
theorem line_loop (L S : List Int) (n : Nat) (hn : n = L.length) (hS : S.length = n) (h8 : n ≤ 8) (kind : Int) : ∀ d i acc k, i + d = n → acc.length = i → d < k → backseatref12_Line.l0 k L S (n : Int) (i : Int) kind 0 0 acc = some (kind, 0, 0, acc ++ kidsFrom L S i d, decide ((S.length : Int) > 0)) := by
  intro d
  induction d with
  | zero =>
    intro i acc k hi ha hk
    obtain ⟨k, rfl⟩ : ∃ m, k = m + 1 := ⟨k - 1, by omega⟩
    simp only [backseatref12_Line.l0]
    rw [if_neg (by omega)]
    simp [kidsFrom]
  | succ d ih =>
    intro i acc k hi ha hk
    obtain ⟨k, rfl⟩ : ∃ m, k = m + 1 := ⟨k - 1, by omega⟩
    simp only [backseatref12_Line.l0]
    rw [if_pos (by omega), if_pos (by omega), if_pos (by omega), if_pos (by omega), if_pos (by omega), wrap_i (by omega) (by omega), show ((i : Int) + 1) = ((i + 1 : Nat) : Int) by omega, ih (i + 1) _ k (by omega) (by simp [ha]) (by omega), kidsFrom_succ]
    simp
end Go.Proofs.Ytplngfammfdemaa
