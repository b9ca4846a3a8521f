-- A copy of the text YtplngfammfdemaaMF0 with what this claim does not reach left out (prune.py, a program of this project).
import Derived.Test.YtplngfammfdemaaZfQx15
import Derived.Test.YtplngfammfdemaaZfQx16
import Derived.Test.YtplngfammfdemaaZfGTree
namespace Go.Proofs.Ytplngfammfdemaa
open Go.RowKit Go.Proofs.YtplngfammfdemaaW.PrintWords Go.Proofs.YtplngfammfdemaaW.PrintMore Q
set_option linter.unusedVariables false
set_option linter.unusedSimpArgs false
theorem wrap_i {i : Int} (h0 : -1000000000 ≤ i) (h1 : i ≤ 1000000000) : wrap64 i = i := by unfold wrap64; omega
theorem mono_ge {α : Type} {f : Nat → Option α} (hm : ∀ k, LeO (f k) (f (k + 1))) {k : Nat} {r : α} (h : f k = some r) : ∀ k', k ≤ k' → f k' = some r := by
  intro k' hk
  obtain ⟨d, rfl⟩ := Nat.exists_eq_add_of_le hk
  clear hk
  induction d with
  | zero => exact h
  | succ d ih => exact hm _ _ ih
def kidsFrom (L S : List Int) (i d : Nat) : List S31 := (List.range' i d).map fun j : Nat => ⟨0, rd L (j : Int), rd S (j : Int), []⟩
theorem kidsFrom_succ (L S : List Int) (i d : Nat) : kidsFrom L S i (d + 1) = (⟨0, rd L (i : Int), rd S (i : Int), []⟩ : S31) :: kidsFrom L S (i + 1) d := by simp [kidsFrom, List.range'_succ]
theorem kidsFrom_length (L S : List Int) (i d : Nat) : (kidsFrom L S i d).length = d := by simp [kidsFrom]
theorem layPane_F (k : Nat) (w h : Int) (l : List Int) : layPane.F k w h l = preset_size_pane.f w h l := rfl
theorem chunk_one (L : List Int) (n i : Nat) (h : i < n) (hn : n = L.length) : rd_L2 (chunksN 1 n L) (i : Int) = [rd L (i : Int)] := by
  unfold rd_L2 chunksN
  rw [Int.toNat_natCast, List.getD_eq_getElem?_getD, List.getElem?_map, List.getElem?_range h, Option.map_some, Option.getD_some]
  unfold chunkAt rd
  rw [Nat.mul_one, Int.toNat_natCast, List.getD_eq_getElem?_getD, List.getElem?_eq_getElem (by omega), Option.getD_some, List.drop_eq_getElem_cons (by omega)]
  rfl
theorem chunksN_length (m K : Nat) (L : List Int) : (chunksN m K L).length = K := by simp [chunksN]
theorem pane_one (a b p : Int) : preset_size_pane.f a b [p] = some (0, p, 0, [], true) := rfl
theorem shared_loop (L S : List Int) (n : Nat) (hn : n = L.length) (hS : S.length = n) (h8 : n ≤ 8) (kind a b : Int) : ∀ d i acc k, i + d = n → acc.length = i → d < k → preset_sharedG.l0 layPane k kind S (chunksN 1 n L) (n : Int) (i : Int) a b kind 0 0 acc = some (kind, 0, 0, acc ++ kidsFrom L S i d, true) := by
  intro d
  induction d with
  | zero =>
    intro i acc k hi ha hk
    obtain ⟨k, rfl⟩ : ∃ m, k = m + 1 := ⟨k - 1, by omega⟩
    simp only [preset_sharedG.l0]
    rw [if_neg (by omega)]
    simp [kidsFrom]
  | succ d ih =>
    intro i acc k hi ha hk
    obtain ⟨k, rfl⟩ : ∃ m, k = m + 1 := ⟨k - 1, by omega⟩
    simp only [preset_sharedG.l0]
    rw [if_pos (by omega), if_pos (by omega), if_pos (by rw [chunksN_length]; omega), if_pos (by omega)]
    have hw : ∃ x y, preset_size_with.f a b kind (rd S (i : Int)) = some (x, y) := by
      unfold preset_size_with.f
      split <;> exact ⟨_, _, rfl⟩
    obtain ⟨x, y, hw⟩ := hw
    rw [hw]
    simp only [Option.bind_some, layPane_F]
    rw [chunk_one L n i (by omega) hn, pane_one]
    simp only [Option.bind_some, if_true]
    rw [if_pos (by omega), wrap_i (by omega) (by omega), show ((i : Int) + 1) = ((i + 1 : Nat) : Int) by omega, ih (i + 1) _ k (by omega) (by simp [ha]) (by omega), kidsFrom_succ]
    simp
abbrev R5 := Int × Int × Int × List S31 × Bool
theorem each_f (L : List Int) (h1 : 1 ≤ L.length) (h8 : L.length ≤ 8) : preset_each.f L = some (chunksN 1 L.length L) := by
  unfold preset_each.f
  rw [if_pos ⟨h1, by omega⟩]
theorem bind5 (x : Option R5) : (x.bind fun bt => some (bt.1, bt.2.1, bt.2.2.1, bt.2.2.2.1, bt.2.2.2.2)) = x := by cases x <;> rfl
theorem tdiv2 {x : Int} (h0 : 0 ≤ x) (h1 : x ≤ 100000) : wrap64 (Int.tdiv x 2) = x / 2 := by
  rw [Int.tdiv_eq_ediv_of_nonneg h0]
  exact wrap_i (by omega) (by omega)
theorem row_F (k : Nat) (w h : Int) (l : List Int) : layRow.F k w h l = preset_size_row.f k w h l := rfl
theorem rd_chunks (c K : Nat) (L : List Int) (i : Nat) (h : i < K) : rd_L2 (chunksN c K L) (i : Int) = chunkAt c L i := by
  unfold rd_L2 chunksN
  rw [Int.toNat_natCast, List.getD_eq_getElem?_getD, List.getElem?_map, List.getElem?_range h, Option.map_some, Option.getD_some]
theorem cut_lower (c : Nat) (L : List Int) (i : Nat) : (L.take (c * (i + 1))).drop (c * i) = chunkAt c L i := by
  unfold chunkAt
  rw [List.drop_take, Nat.mul_comm c i]
  congr 1
  rw [Nat.mul_add, Nat.mul_comm c i]; omega
theorem chunk_len1 (c : Nat) (hc : 1 ≤ c) (L : List Int) (i : Nat) (h : i * c < L.length) : 1 ≤ (chunkAt c L i).length := by
  rw [chunkAt_length]
  simp only [Nat.min_def]; split <;> omega
theorem chunk_len8 (c : Nat) (hc : c ≤ 8) (L : List Int) (i : Nat) : (chunkAt c L i).length ≤ 8 := by
  rw [chunkAt_length]
  exact Nat.le_trans (Nat.min_le_left _ _) hc
theorem chunk_f (L : List Int) (h1 : 1 ≤ L.length) (h8 : L.length ≤ 8) (c : Nat) (hc : 1 ≤ c) (hc3 : c ≤ 3) : slices_Chunk_int_int.f L (c : Int) = some (chunksN c (rowsN L.length c) L) := by
  unfold slices_Chunk_int_int.f
  rw [if_pos ⟨h1, by omega, by omega, by omega⟩, Int.toNat_natCast]
theorem alive30 : ∀ k, 30 ≤ k → backseatlaw12_alive.f k = some true := by
  intro k hk
  induction k with
  | zero => omega
  | succ k ih =>
    by_cases h : k = 29
    · subst h; kernel_rfl
    · exact backseatlaw12_alive.mono k _ (ih (by omega))
theorem in_yes {a lo hi : Int} (h : lo ≤ a ∧ a ≤ hi) : preset_in.f a lo hi = some true := by
  unfold preset_in.f; rw [if_pos h.1, decide_eq_true h.2]
theorem in_no {a lo hi : Int} (h : ¬ (lo ≤ a ∧ a ≤ hi)) : preset_in.f a lo hi = some false := by
  unfold preset_in.f
  split
  · rw [decide_eq_false (by omega)]
  · rfl
theorem size_f (w h : Int) : tree_size.f w h = some (decide (1 ≤ w ∧ w ≤ 80 ∧ 1 ≤ h ∧ h ≤ 50)) := by
  unfold tree_size.f tree_in.f
  by_cases h1 : w ≥ 1
  · rw [if_pos h1, Option.bind_some]
    by_cases h2 : w ≤ 80
    · rw [if_pos (decide_eq_true h2)]
      by_cases h3 : h ≥ 1
      · rw [if_pos h3, Option.bind_some]
        congr 1
        rw [decide_eq_decide]; omega
      · rw [if_neg h3, Option.bind_some, decide_eq_false (by omega)]
    · rw [if_neg (by simpa using h2), decide_eq_false (by omega)]
  · rw [if_neg h1, Option.bind_some, if_neg (by decide), decide_eq_false (by omega)]
theorem right_leaf (w h : Int) (k : Nat) (hk : 2 ≤ k) : tree_Right.f k 0 1 0 [] w h = some (decide (1 ≤ w ∧ w ≤ 80 ∧ 1 ≤ h ∧ h ≤ 50)) := by
  obtain ⟨k, rfl⟩ : ∃ m, k = m + 1 := ⟨k - 1, by omega⟩
  unfold tree_Right.f
  rw [size_f, Option.bind_some]
  by_cases hs : 1 ≤ w ∧ w ≤ 80 ∧ 1 ≤ h ∧ h ≤ 50
  · rw [decide_eq_true hs, if_pos rfl]
    rfl
  · rw [decide_eq_false hs]; rfl
theorem rd_get (L : List Int) (i : Nat) (h : i < L.length) : rd L (i : Int) = L[i] := by
  unfold rd
  rw [Int.toNat_natCast, List.getD_eq_getElem?_getD, List.getElem?_eq_getElem h]; rfl
theorem idx_ne {a p : Int} {l : List Int} (h : a ≠ p) : (a :: l).idxOf p = l.idxOf p + 1 := by
  rw [List.idxOf_cons]
  rw [show (a == p) = false from beq_eq_false_iff_ne.2 h]; rfl
theorem index_from (L : List Int) (p : Int) (hlen : L.length ≤ 1000) : ∀ d i k, i + d = L.length → d < k → slices_Index_int_int.l0 k L p (L.length : Int) (i : Int) = some (if p ∈ L.drop i then (i : Int) + ((L.drop i).idxOf p : Nat) else -1) := by
  intro d
  induction d with
  | zero =>
    intro i k hi hk
    obtain ⟨k, rfl⟩ : ∃ m, k = m + 1 := ⟨k - 1, by omega⟩
    simp only [slices_Index_int_int.l0]
    rw [if_neg (by omega), List.drop_eq_nil_of_le (by omega), if_neg (by simp)]
  | succ d ih =>
    intro i k hi hk
    obtain ⟨k, rfl⟩ : ∃ m, k = m + 1 := ⟨k - 1, by omega⟩
    simp only [slices_Index_int_int.l0]
    rw [if_pos (by omega), if_pos (by omega), if_pos (by omega), rd_get L i (by omega), List.drop_eq_getElem_cons (by omega)]
    by_cases hp : p = L[i]'(by omega)
    · rw [if_pos hp, if_pos (by rw [← hp]; exact List.mem_cons_self), ← hp, List.idxOf_cons_self]
      simp
    · rw [if_neg hp, wrap_i (by omega) (by omega), show ((i : Int) + 1) = ((i + 1 : Nat) : Int) by omega, ih (i + 1) k (by omega) (by omega)]
      congr 1
      by_cases hm : p ∈ L.drop (i + 1)
      · rw [if_pos hm, if_pos (List.mem_cons_of_mem _ hm), idx_ne (fun e => hp e.symm)]
        omega
      · rw [if_neg hm, if_neg (by simp only [List.mem_cons, not_or]; exact ⟨hp, hm⟩)]
theorem contains_f (L : List Int) (p : Int) (hlen : L.length ≤ 1000) (k : Nat) (hk : L.length < k) : slices_Contains_int_int.f k L p = some (decide (p ∈ L)) := by
  unfold slices_Contains_int_int.f slices_Index_int_int.f
  have := index_from L p hlen L.length 0 k (by omega) hk
  rw [show ((0 : Nat) : Int) = 0 from rfl, List.drop_zero] at this
  rw [this, Option.bind_some]
  congr 1
  split
  · rename_i hm; rw [decide_eq_true hm, decide_eq_true (by omega)]
  · rename_i hm; rw [decide_eq_false hm, decide_eq_false (by omega)]
def okF (L : List Int) (i : Nat) : Prop := ∀ j (h : j < L.length), i ≤ j → (1 ≤ L[j] ∧ L[j] ≤ 999) ∧ L[j] ∉ L.take j
theorem okF_step {L : List Int} {i : Nat} (hi : i < L.length) : okF L i ↔ ((1 ≤ L[i] ∧ L[i] ≤ 999) ∧ L[i] ∉ L.take i) ∧ okF L (i + 1) := by
  constructor
  · intro h
    exact ⟨h i hi (Nat.le_refl _), fun j hj hij => h j hj (by omega)⟩
  · rintro ⟨h1, h2⟩ j hj hij
    rcases Nat.lt_or_ge i j with h | h
    · exact h2 j hj h
    · have : i = j := by omega
      subst this
      exact h1
def laid (x : Option R5) : Option (Int × Int × Int × List S31 × Int) := x.bind fun bt308 => (if bt308.2.2.2.2 = true then (some (bt308.1, bt308.2.1, bt308.2.2.1, bt308.2.2.2.1, 0)) else (some (0, 0, 0, ([] : List (S31)), 9)))
theorem lay_loop (L : List Int) (h8 : L.length ≤ 10) (how w h : Int) : ∀ d i k, i + d = L.length → 20 + d < k →
    (okF L i → ∃ k', k ≤ k' + d + 1 ∧ preset_Lay.l0 k L how w h L (L.length : Int) (i : Int) = laid (preset_layHow.f k' (wrap64 (how - 1)) w h L)) ∧ (¬ okF L i → preset_Lay.l0 k L how w h L (L.length : Int) (i : Int) = some (0, 0, 0, [], 1)) := by
  intro d
  induction d with
  | zero =>
    intro i k hi hk
    obtain ⟨k, rfl⟩ : ∃ m, k = m + 1 := ⟨k - 1, by omega⟩
    simp only [preset_Lay.l0]
    rw [if_neg (by omega)]
    exact ⟨fun _ => ⟨k, by omega, rfl⟩, fun h => absurd (fun j hj hij => by omega) h⟩
  | succ d ih =>
    intro i k hi hk
    obtain ⟨k, rfl⟩ : ∃ m, k = m + 1 := ⟨k - 1, by omega⟩
    have hil : i < L.length := by omega
    simp only [preset_Lay.l0]
    rw [if_pos (by omega), if_pos (by omega), if_pos (by omega), rd_get L i hil, okF_step hil]
    by_cases hr : 1 ≤ L[i] ∧ L[i] ≤ 999
    · rw [in_yes hr, Option.bind_some, if_pos rfl, if_pos (by omega), Int.toNat_natCast, contains_f (L.take i) L[i] (by rw [List.length_take]; omega) k (by rw [List.length_take]; omega), Option.bind_some]
      by_cases hm : L[i] ∈ L.take i
      · rw [decide_eq_true hm, if_pos rfl]
        exact ⟨fun h => absurd hm h.1.2, fun _ => rfl⟩
      · rw [decide_eq_false hm, if_neg (by decide), wrap_i (by omega) (by omega), show ((i : Int) + 1) = ((i + 1 : Nat) : Int) by omega]
        obtain ⟨h1, h2⟩ := ih (i + 1) k (by omega) (by omega)
        refine ⟨fun h => ?_, fun h => h2 (fun ho => h ⟨⟨hr, hm⟩, ho⟩)⟩
        obtain ⟨k', hk', he⟩ := h1 h.2
        exact ⟨k', by omega, he⟩
    · rw [in_no hr, Option.bind_some, if_neg (by decide)]
      exact ⟨fun h => absurd h.1.1 hr, fun _ => rfl⟩
def MayP (L : List Int) (how w h : Int) : Prop := okF L 0 ∧ (1 ≤ L.length ∧ L.length ≤ 8 ∧ 1 ≤ how ∧ how ≤ 5 ∧ 1 ≤ w ∧ w ≤ 80 ∧ 1 ≤ h ∧ h ≤ 50)
theorem lay_refuses (L : List Int) (h10 : L.length ≤ 10) (how w h : Int) (hn : ¬ MayP L how w h) : preset_Lay.f 300 L how w h = some (0, 0, 0, [], 1) := by
  have hj : ∀ b, b = true → preset_Lay.j0 300 L how w h b = some (0, 0, 0, [], 1) := by
    rintro _ rfl
    rw [show (300 : Nat) = 299 + 1 from rfl, preset_Lay.j0, if_pos rfl]
  unfold preset_Lay.f
  by_cases a1 : 1 ≤ (L.length : Int) ∧ (L.length : Int) ≤ 8
  · rw [in_yes a1, Option.bind_some, if_pos rfl]
    by_cases a2 : 1 ≤ how ∧ how ≤ 5
    · rw [in_yes a2, Option.bind_some, if_pos rfl, right_leaf w h 300 (by omega), Option.bind_some]
      by_cases a3 : 1 ≤ w ∧ w ≤ 80 ∧ 1 ≤ h ∧ h ≤ 50
      · rw [decide_eq_true a3, show (300 : Nat) = 299 + 1 from rfl, preset_Lay.j0, if_neg (by decide)]
        have := (lay_loop L h10 how w h L.length 0 299 (by omega) (by omega)).2 (fun ho => hn ⟨ho, by omega, by omega, a2.1, a2.2, a3⟩)
        exact this
      · rw [decide_eq_false a3]; exact hj _ rfl
    · rw [in_no a2, Option.bind_some, if_neg (by decide)]; exact hj _ rfl
  · rw [in_no a1, Option.bind_some, if_neg (by decide)]; exact hj _ rfl
theorem lay_lays (L : List Int) (how w h : Int) (hm : MayP L how w h) : ∃ k', 280 ≤ k' ∧ preset_Lay.f 300 L how w h = laid (preset_layHow.f k' (wrap64 (how - 1)) w h L) := by
  obtain ⟨ho, h1, h8, a1, a2, a3⟩ := hm
  unfold preset_Lay.f
  rw [in_yes (by omega), Option.bind_some, if_pos rfl, in_yes ⟨a1, a2⟩, Option.bind_some, if_pos rfl, right_leaf w h 300 (by omega), Option.bind_some, decide_eq_true a3, show (300 : Nat) = 299 + 1 from rfl, preset_Lay.j0, if_neg (by decide)]
  obtain ⟨k', hk', he⟩ := (lay_loop L (by omega) how w h L.length 0 299 (by omega) (by omega)).1 ho
  exact ⟨k', by omega, he⟩
theorem rows_go1 (L : List Int) (c : Nat) (hc3 : c ≤ 3) (hcc : c * c < L.length) (w h : Int) (k : Nat) :
    preset_size_rows.l0 (k + 1) L (c : Int) w h = preset_size_rows.l0 k L ((c + 1 : Nat) : Int) w h := by
  have hw2 : wrap64 ((c : Int) * (c : Int)) = ((c * c : Nat) : Int) := by
    rw [← Int.natCast_mul]
    have : c * c ≤ 3 * 3 := Nat.mul_le_mul hc3 hc3
    exact wrap_i (by omega) (by omega)
  have hw1 : wrap64 ((c : Int) + 1) = ((c + 1 : Nat) : Int) := by rw [wrap_i (by omega) (by omega)]; omega
  rw [preset_size_rows.l0, hw2, if_pos (by omega), hw1]
end Go.Proofs.Ytplngfammfdemaa
