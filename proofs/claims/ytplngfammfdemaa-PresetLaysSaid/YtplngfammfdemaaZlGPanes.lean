-- Copies of the texts YtplngfammfdemaaML2, YtplngfammfdemaaML3, YtplngfammfdemaaML4, YtplngfammfdemaaQx14, YtplngfammfdemaaGHow, YtplngfammfdemaaGPanes with what this claim does not reach left out (prune.py, a program of this project).
import Derived.Test.YtplngfammfdemaaZlML1
import Derived.Test.YtplngfammfdemaaZlQx24
import Derived.Test.YtplngfammfdemaaZlQx21
import Derived.Test.YtplngfammfdemaaZlGMul
import Derived.Test.YtplngfammfdemaaZlQx7
import Derived.Test.YtplngfammfdemaaZlQx17
import Derived.Test.YtplngfammfdemaaZlGEachC
section
namespace Go.Proofs.Ytplngfammfdemaa
open Go.RowKit Go.Proofs.YtplngfammfdemaaW.PrintWords Q
set_option linter.unusedVariables false
set_option linter.unusedSimpArgs false
abbrev R5 := Int × Int × Int × List S31 × Bool
/-- A tree of a kind, a pane and kids is the same as itself, whatever its size, from K rounds on. -/
def SmT (K : Nat) (a b : Int) (l : List S31) : Prop := ∀ s s' k, K ≤ k → backseatref11_Same.f k a b s l a b s' l = some true
def Sm (K : Nat) (t : S31) : Prop := SmT K t.f0 t.f1 t.f3
/-- Both answer; both say whether there is room; and if there is, the tree is the same. -/
def Ag (K : Nat) (x y : Option R5) : Prop := ∃ a b, x = some a ∧ y = some b ∧ a.2.2.2.2 = b.2.2.2.2 ∧ (a.2.2.2.2 = true → a = b ∧ SmT K a.1 a.2.1 a.2.2.2.1) ∧ (a.2.2.2.2 = false → a = (0, 0, 0, [], false))
theorem same_node (K : Nat) (a b : Int) (l : List S31) (h8 : l.length ≤ 10) (h : ∀ x ∈ l, Sm K x) : SmT (K + l.length + 4) a b l := by
  have loop : ∀ d i k s s', i + d = l.length → K + d + 1 ≤ k → backseatref11_Same.l0 k (l.length : Int) (i : Int) a b s l a b s' l = some true := by
    intro d
    induction d with
    | zero =>
      intro i k s s' hi hk
      obtain ⟨k, rfl⟩ : ∃ m, k = m + 1 := ⟨k - 1, by omega⟩
      simp only [backseatref11_Same.l0]
      rw [if_neg (by omega)]
    | succ d ih =>
      intro i k s s' hi hk
      obtain ⟨k, rfl⟩ : ∃ m, k = m + 1 := ⟨k - 1, by omega⟩
      simp only [backseatref11_Same.l0]
      rw [if_pos (by omega), if_pos (by omega), if_pos (by omega), if_pos (by omega), if_pos trivial]
      have hm : rd_T31 l (i : Int) ∈ l := by
        unfold rd_T31
        rw [Int.toNat_natCast, List.getD_eq_getElem?_getD, List.getElem?_eq_getElem (by omega), Option.getD_some]
        exact List.getElem_mem _
      rw [h _ hm _ _ k (by omega)]
      simp only [Option.bind_some, if_true]
      rw [wrap_i (by omega) (by omega), show ((i : Int) + 1) = ((i + 1 : Nat) : Int) by omega]
      exact ih (i + 1) k s s' (by omega) (by omega)
  intro s s' k hk
  obtain ⟨k, rfl⟩ : ∃ m, k = m + 1 := ⟨k - 1, by omega⟩
  obtain ⟨k, rfl⟩ : ∃ m, k = m + 1 := ⟨k - 1, by omega⟩
  simp only [backseatref11_Same.f, backseatref11_Same.j0]
  rw [if_pos trivial, if_pos trivial, if_neg (by simp)]
  exact loop l.length 0 k s s' (by omega) (by omega)
theorem sm_leaf (K : Nat) (hK : 4 ≤ K) (p s : Int) : Sm K ⟨0, p, s, []⟩ := by
  intro s s' k hk
  exact same_node 0 0 p [] (by simp) (by simp) s s' k (by simp; omega)
theorem sm_kids (L S : List Int) (i d : Nat) : ∀ x ∈ kidsFrom L S i d, Sm 4 x := by
  intro x hx
  simp only [kidsFrom, List.mem_map] at hx
  obtain ⟨j, _, rfl⟩ := hx
  exact sm_leaf 4 (by omega) _ _
theorem each_f (L : List Int) (h1 : 1 ≤ L.length) (h8 : L.length ≤ 8) : preset_each.f L = some (chunksN 1 L.length L) := by
  unfold preset_each.f
  rw [if_pos ⟨h1, by omega⟩]
theorem line_f (L : List Int) (kind : Int) (hk : kind = 1 ∨ kind = 2) (w h : Int) (k : Nat) : backseatref12_Line.f k L kind w h = if (L.length : Int) = 1 then (if 0 < (L.length : Int) then some (0, rd L 0, 0, [], true) else none) else backseatref12_Line.j0 k L kind (if kind = 2 then h else w) := by
  unfold backseatref12_Line.f
  by_cases h2 : kind = 2
  · rw [if_pos h2, if_pos h2]
  · rw [if_neg h2, if_neg h2]
theorem line_ag (L : List Int) (h1 : 1 ≤ L.length) (h8 : L.length ≤ 8) (kind : Int) (hk : kind = 1 ∨ kind = 2) (w h : Int) (h0 : 0 ≤ (if kind = 2 then h else w)) (h80 : (if kind = 2 then h else w) ≤ 80) (a3 : Int) (k : Nat) (hkk : 120 ≤ k) : Ag 20 (preset_sharedPane.f k w h kind (chunksN 1 L.length L) a3) (backseatref12_Line.f k L kind w h) := by
  rw [line_f L kind hk]
  unfold preset_sharedPane.f preset_sharedG.f
  rw [chunksN_length]
  by_cases hn : (L.length : Int) = 1
  · rw [if_pos hn, if_pos hn, if_pos (by omega), if_pos (by omega)]
    rw [layPane_F, show (0 : Int) = ((0 : Nat) : Int) from rfl, chunk_one L L.length 0 (by omega) rfl, pane_one]
    refine ⟨_, _, rfl, rfl, rfl, fun _ => ⟨rfl, ?_⟩, fun h => by cases h⟩
    exact fun s s' k hk => sm_leaf 4 (by omega) (rd L 0) 0 s s' k (by omega)
  · rw [if_neg hn, if_neg hn]
    have hal : preset_size_along.f w h kind = some (if kind = 2 then h else w) := by
      unfold preset_size_along.f
      rcases hk with rfl | rfl
      · rfl
      · rfl
    rw [hal]
    simp only [Option.bind_some]
    generalize (if kind = 2 then h else w) = c at h0 h80
    obtain ⟨l, e, l2, he1, he2, hcase⟩ := even_both h0 h80 h1 h8
    obtain ⟨k, rfl⟩ : ∃ m, k = m + 1 := ⟨k - 1, by omega⟩
    simp only [backseatref12_Line.j0]
    rw [he1 k (by omega), he2 (k + 1) (by omega)]
    simp only [Option.bind_some]
    rcases hcase with ⟨rfl, hne⟩ | ⟨hne, rfl, rfl, hlen, hb⟩
    · rw [if_neg hne]
      obtain ⟨k, rfl⟩ : ∃ m, k = m + 1 := ⟨k - 1, by omega⟩
      simp only [backseatref12_Line.l0]
      refine ⟨(0, 0, 0, [], false), (kind, 0, 0, [], false), rfl, by rw [if_neg (by simp)]; rfl, rfl, fun h => (by cases h), fun _ => rfl⟩
    · rw [if_pos rfl]
      have h2 := shared_loop L l2 L.length rfl hlen h8 kind w h L.length 0 [] (k + 1) (by omega) rfl (by omega)
      have h3 := line_loop L l2 L.length rfl hlen h8 kind L.length 0 [] k (by omega) rfl (by omega)
      rw [show ((0 : Nat) : Int) = 0 from rfl] at h2 h3
      rw [h2, hlen, h3]
      have hd : decide ((l2.length : Int) > 0) = true := decide_eq_true (by rw [hlen]; omega)
      rw [hd]
      refine ⟨_, _, rfl, rfl, rfl, fun _ => ⟨rfl, ?_⟩, fun h => by cases h⟩
      intro s s' k' hk'
      exact same_node 4 kind 0 _ (by simp [kidsFrom_length]; omega) (by simpa using sm_kids L l2 0 L.length) s s' k' (by simp [kidsFrom_length]; omega)
theorem bind5 (x : Option R5) : (x.bind fun bt => some (bt.1, bt.2.1, bt.2.2.1, bt.2.2.2.1, bt.2.2.2.2)) = x := by cases x <;> rfl
theorem row_ag (L : List Int) (h1 : 1 ≤ L.length) (h8 : L.length ≤ 8) (w h : Int) (h0 : 0 ≤ w) (h80 : w ≤ 80) (k : Nat) (hkk : 120 ≤ k) : Ag 20 (preset_size_row.f k w h L) (backseatref12_Line.f k L 1 w h) := by
  unfold preset_size_row.f
  rw [each_f L h1 h8, Option.bind_some, bind5]
  exact line_ag L h1 h8 1 (.inl rfl) w h h0 h80 91 k hkk
theorem pile_ag (L : List Int) (h1 : 1 ≤ L.length) (h8 : L.length ≤ 8) (w h : Int) (h0 : 0 ≤ h) (h80 : h ≤ 80) (k : Nat) (hkk : 120 ≤ k) : Ag 20 (preset_size_pile.f k w h L) (backseatref12_Line.f k L 2 w h) := by
  unfold preset_size_pile.f
  rw [each_f L h1 h8, Option.bind_some, bind5]
  exact line_ag L h1 h8 2 (.inr rfl) w h h0 h80 91 k hkk
end Go.Proofs.Ytplngfammfdemaa
end
section
namespace Go.Proofs.Ytplngfammfdemaa
open Go.RowKit Go.Proofs.YtplngfammfdemaaW.PrintWords Q
set_option linter.unusedVariables false
set_option linter.unusedSimpArgs false
theorem tdiv2 {x : Int} (h0 : 0 ≤ x) (h1 : x ≤ 100000) : wrap64 (Int.tdiv x 2) = x / 2 := by
  rw [Int.tdiv_eq_ediv_of_nonneg h0]
  exact wrap_i (by omega) (by omega)
theorem row_F (k : Nat) (w h : Int) (l : List Int) : layRow.F k w h l = preset_size_row.f k w h l := rfl
/-- The first pane and the others, once for both ways: Y lays the others along 3 - kind. -/
theorem main_ag (Y : LayFn) (kind : Int) (hk : kind = 1 ∨ kind = 2) (L : List Int) (h1 : 1 ≤ L.length) (h8 : L.length ≤ 8) (w h : Int) (hw0 : 0 ≤ w) (hw : w ≤ 80) (hh0 : 0 ≤ h) (hh : h ≤ 80) (hd1 : 1 ≤ (if kind = 2 then h else w)) (a3 : Int) (k : Nat) (hkk : 130 ≤ k)
    (hY : ∀ (w' h' : Int) k, 120 ≤ k → 0 ≤ w' → w' ≤ 80 → 0 ≤ h' → h' ≤ 80 → ∀ l : List Int, 1 ≤ l.length → l.length ≤ 8 → Ag 20 (Y.F k w' h' l) (backseatref12_Line.f k l (3 - kind) w' h')) :
    Ag 40 (preset_mainG.f Y k w h kind L a3) (backseatref12_Main.f k L kind w h) := by
  unfold preset_mainG.f backseatref12_Main.f
  by_cases hn : (L.length : Int) = 1
  · rw [if_pos hn, if_pos hn, if_pos (by omega)]
    unfold preset_size_pane.f
    rw [if_pos (by omega)]
    refine ⟨_, _, rfl, rfl, rfl, fun _ => ⟨rfl, ?_⟩, fun h => by cases h⟩
    exact fun s s' k hk => sm_leaf 4 (by omega) (rd L 0) 0 s s' k (by omega)
  · rw [if_neg hn, if_neg hn]
    have hdl1 : 1 ≤ (L.drop 1).length := by rw [List.length_drop]; omega
    have hdl8 : (L.drop 1).length ≤ 8 := by rw [List.length_drop]; omega
    obtain ⟨k, rfl⟩ : ∃ m, k = m + 1 := ⟨k - 1, by omega⟩
    have fin : ∀ (n : Int) (a b : R5), a.2.2.2.2 = b.2.2.2.2 → (a.2.2.2.2 = true → a = b ∧ SmT 20 a.1 a.2.1 a.2.2.2.1) →
        Ag 40 (if n < 2 then some (0, 0, 0, [], false) else if a.2.2.2.2 = true then (if 0 < (L.length : Int) then some (kind, 0, 0, [⟨0, rd L 0, wrap64 (n - n / 2), []⟩, ⟨a.1, a.2.1, n / 2, a.2.2.2.1⟩], true) else none) else some (0, 0, 0, [], false))
          (if n < 2 then some (0, 0, 0, [], false) else if b.2.2.2.2 = true then (if 0 < (L.length : Int) then some (kind, 0, 0, [⟨0, rd L 0, wrap64 (n - n / 2), []⟩, ⟨b.1, b.2.1, n / 2, b.2.2.2.1⟩], true) else none) else some (0, 0, 0, [], false)) := by
      intro n a b hi hy
      by_cases hn2 : n < 2
      · rw [if_pos hn2, if_pos hn2]
        exact ⟨_, _, rfl, rfl, rfl, fun h => (by cases h), fun _ => rfl⟩
      · rw [if_neg hn2, if_neg hn2]
        by_cases ht : a.2.2.2.2 = true
        · obtain ⟨rfl, hs⟩ := hy ht
          rw [if_pos ht, if_pos (by omega)]
          refine ⟨_, _, rfl, rfl, rfl, fun _ => ⟨rfl, ?_⟩, fun h => by cases h⟩
          intro s s' k' hk'
          refine same_node 20 kind 0 [_, _] (by simp) ?_ s s' k' (by simp; omega)
          intro x hx
          simp only [List.mem_cons, List.not_mem_nil, or_false] at hx
          rcases hx with rfl | rfl
          · exact sm_leaf 20 (by omega) _ _
          · exact hs
        · rw [if_neg ht, if_neg (by rw [← hi]; exact ht)]
          exact ⟨_, _, rfl, rfl, rfl, fun h => (by cases h), fun _ => rfl⟩
    rcases hk with rfl | rfl
    · rw [if_neg (by omega)] at hd1
      rw [if_neg (by omega)]
      have w1 : wrap64 (w - 1) = w - 1 := wrap_i (by omega) (by omega)
      have w2 := tdiv2 (x := w - 1) (by omega) (by omega)
      simp only [backseatref12_Main.j0, preset_size_along.f, if_true, Option.bind_some, preset_size_with.f]
      rw [if_pos (by omega), if_pos (by omega), w1, w2, show wrap64 (3 - 1) = 3 - 1 from wrap_i (by decide) (by decide)]
      obtain ⟨a, b, ha, hb, hi, hy, hf⟩ := hY ((w - 1) / 2) h (k + 1) (by omega) (by omega) (by omega) hh0 hh (L.drop 1) hdl1 hdl8
      have hb' : backseatref12_Line.f k (L.drop 1) (3 - 1) ((w - 1) / 2) h = some b := by
        obtain ⟨a', b', _, hb'', _⟩ := hY ((w - 1) / 2) h k (by omega) (by omega) (by omega) hh0 hh (L.drop 1) hdl1 hdl8
        have := backseatref12_Line.mono (L.drop 1) (3 - 1) ((w - 1) / 2) h k _ hb''
        rw [hb] at this
        rw [hb'', this]
      rw [ha, hb']
      simp only [Option.bind_some]
      rw [if_neg (show ¬ ((1 : Int) = 2) by omega)]
      exact fin (w - 1) a b hi hy
    · rw [if_pos rfl] at hd1
      rw [if_pos rfl]
      have w1 : wrap64 (h - 1) = h - 1 := wrap_i (by omega) (by omega)
      have w2 := tdiv2 (x := h - 1) (by omega) (by omega)
      have e1 : preset_size_along.f w h 2 = some h := rfl
      have e2 : ∀ x, preset_size_with.f w h 2 x = some (w, x) := fun x => rfl
      simp only [backseatref12_Main.j0]
      rw [e1]
      simp only [Option.bind_some]
      rw [e2]
      simp only [Option.bind_some]
      rw [if_pos (by omega), if_pos (by omega), w1, w2, show wrap64 (3 - 2) = 3 - 2 from wrap_i (by decide) (by decide)]
      obtain ⟨a, b, ha, hb, hi, hy, hf⟩ := hY w ((h - 1) / 2) (k + 1) (by omega) hw0 hw (by omega) (by omega) (L.drop 1) hdl1 hdl8
      have hb' : backseatref12_Line.f k (L.drop 1) (3 - 2) w ((h - 1) / 2) = some b := by
        obtain ⟨a', b', _, hb'', _⟩ := hY w ((h - 1) / 2) k (by omega) hw0 hw (by omega) (by omega) (L.drop 1) hdl1 hdl8
        have := backseatref12_Line.mono (L.drop 1) (3 - 2) w ((h - 1) / 2) k _ hb''
        rw [hb] at this
        rw [hb'', this]
      obtain ⟨a0, b0, _, hb0, _⟩ := hY ((h - 1) / 2) h k (by omega) (by omega) (by omega) hh0 hh (L.drop 1) hdl1 hdl8
      rw [ha, hb0, hb']
      simp only [Option.bind_some]
      rw [if_pos trivial]
      exact fin (h - 1) a b hi hy
theorem left_ag (L : List Int) (h1 : 1 ≤ L.length) (h8 : L.length ≤ 8) (w h : Int) (hw0 : 1 ≤ w) (hw : w ≤ 80) (hh0 : 1 ≤ h) (hh : h ≤ 80) (k : Nat) (hkk : 130 ≤ k) : Ag 40 (preset_size_left.f k w h L) (backseatref12_Main.f k L 1 w h) := by
  unfold preset_size_left.f
  rw [bind5]
  exact main_ag layPile 1 (.inl rfl) L h1 h8 w h (by omega) hw (by omega) hh (by rw [if_neg (by omega)]; exact hw0) 47 k hkk (fun w' h' k hk a b c d l l1 l8 => pile_ag l l1 l8 w' h' c d k hk)
theorem top_ag (L : List Int) (h1 : 1 ≤ L.length) (h8 : L.length ≤ 8) (w h : Int) (hw0 : 1 ≤ w) (hw : w ≤ 80) (hh0 : 1 ≤ h) (hh : h ≤ 80) (k : Nat) (hkk : 130 ≤ k) : Ag 40 (preset_size_top.f k w h L) (backseatref12_Main.f k L 2 w h) := by
  unfold preset_size_top.f
  rw [bind5]
  exact main_ag layRow_ 2 (.inr rfl) L h1 h8 w h (by omega) hw (by omega) hh (by rw [if_pos rfl]; exact hh0) 46 k hkk (fun w' h' k hk a b c d l l1 l8 => row_ag l l1 l8 w' h' a b k hk)
end Go.Proofs.Ytplngfammfdemaa
end
section
namespace Go.Proofs.Ytplngfammfdemaa
open Go.RowKit Go.Proofs.YtplngfammfdemaaW.PrintWords Q
set_option linter.unusedVariables false
set_option linter.unusedSimpArgs false
theorem SmT_mono {K K' : Nat} {a b : Int} {l : List S31} (h : SmT K a b l) (hk : K ≤ K') : SmT K' a b l := fun s s' k h' => h s s' k (Nat.le_trans hk h')
theorem Ag_mono {K K' : Nat} {x y : Option R5} (h : Ag K x y) (hk : K ≤ K') : Ag K' x y := by
  obtain ⟨a, b, h1, h2, h3, h4, h5⟩ := h
  exact ⟨a, b, h1, h2, h3, fun ht => ⟨(h4 ht).1, SmT_mono (h4 ht).2 hk⟩, h5⟩
theorem rd_chunks (c K : Nat) (L : List Int) (i : Nat) (h : i < K) : rd_L2 (chunksN c K L) (i : Int) = chunkAt c L i := by
  unfold rd_L2 chunksN
  rw [Int.toNat_natCast, List.getD_eq_getElem?_getD, List.getElem?_map, List.getElem?_range h, Option.map_some, Option.getD_some]
theorem cut_upper (c : Nat) (L : List Int) (i : Nat) (h : L.length < c * (i + 1)) : (L.take L.length).drop (c * i) = chunkAt c L i := by
  unfold chunkAt
  rw [List.take_length, Nat.mul_comm c i, List.take_of_length_le]
  rw [List.length_drop]
  rw [Nat.mul_add, Nat.mul_one, Nat.mul_comm] at h
  omega
theorem cut_lower (c : Nat) (L : List Int) (i : Nat) : (L.take (c * (i + 1))).drop (c * i) = chunkAt c L i := by
  unfold chunkAt
  rw [List.drop_take, Nat.mul_comm c i]
  congr 1
  rw [Nat.mul_add, Nat.mul_comm c i]; omega
theorem chunk_len1 (c : Nat) (hc : 1 ≤ c) (L : List Int) (i : Nat) (h : i * c < L.length) : 1 ≤ (chunkAt c L i).length := by
  rw [chunkAt_length]
  simp only [Nat.min_def]; split <;> omega
theorem chunk_len8 (c : Nat) (hc : c ≤ 8) (L : List Int) (i : Nat) : (chunkAt c L i).length ≤ 8 := by
  rw [chunkAt_length]
  exact Nat.le_trans (Nat.min_le_left _ _) hc
/-- The loops over rows go alike. -/
theorem rows_loop (L S : List Int) (c many : Nat) (hc : 1 ≤ c) (hc3 : c ≤ 3) (h8 : L.length ≤ 8) (hS : S.length = many) (hm8 : many ≤ 8) (hm1 : 1 ≤ many) (hlt : ∀ i, i < many → i * c < L.length) (w h : Int) (hw0 : 0 ≤ w) (hw : w ≤ 80) :
    ∀ d i acc k, i + d = many → acc.length = i → (∀ x ∈ acc, Sm 20 x) → 121 + d ≤ k → Ag 40 (preset_sharedG.l0 layRow k 2 S (chunksN c many L) (many : Int) (i : Int) w h 2 0 0 acc) (backseatref12_Rows.l1 k L w (c : Int) S (many : Int) (i : Int) 2 0 0 acc) := by
  intro d
  induction d with
  | zero =>
    intro i acc k hi ha hac hk
    obtain ⟨k, rfl⟩ : ∃ m, k = m + 1 := ⟨k - 1, by omega⟩
    simp only [preset_sharedG.l0, backseatref12_Rows.l1]
    rw [if_neg (by omega), if_neg (by omega)]
    by_cases h0 : many = 0
    · omega
    · rw [show decide ((S.length : Int) > 0) = true from decide_eq_true (by omega)]
      refine ⟨_, _, rfl, rfl, rfl, fun _ => ⟨rfl, ?_⟩, fun h => by cases h⟩
      intro s s' k' hk'
      exact same_node 20 2 0 acc (by omega) hac s s' k' (by omega)
  | succ d ih =>
    intro i acc k hi ha hac hk
    obtain ⟨k, rfl⟩ : ∃ m, k = m + 1 := ⟨k - 1, by omega⟩
    simp only [preset_sharedG.l0, backseatref12_Rows.l1]
    have hil := hlt i (by omega)
    rw [if_pos (by omega), if_pos (by omega), if_pos (by rw [chunksN_length]; omega), if_pos (by omega), if_pos (show ((i : Int) < (many : Int)) by omega)]
    rw [show preset_size_with.f w h 2 (rd S (i : Int)) = some (w, rd S (i : Int)) from rfl]
    simp only [Option.bind_some]
    rw [row_F, rd_chunks c many L i (by omega)]
    have hci : wrap64 ((c : Int) * (i : Int)) = ((c * i : Nat) : Int) := by
      rw [← Int.natCast_mul]
      have : c * i ≤ 3 * 8 := Nat.mul_le_mul hc3 (by omega)
      exact wrap_i (by omega) (by omega)
    have hci1 : wrap64 ((c : Int) * wrap64 ((i : Int) + 1)) = ((c * (i + 1) : Nat) : Int) := by
      rw [wrap_i (i := (i : Int) + 1) (by omega) (by omega), show ((i : Int) + 1) = ((i + 1 : Nat) : Int) by omega, ← Int.natCast_mul]
      have : c * (i + 1) ≤ 3 * 9 := Nat.mul_le_mul hc3 (by omega)
      exact wrap_i (by omega) (by omega)
    have hcomm : c * i = i * c := Nat.mul_comm _ _
    rw [hci, hci1]
    simp only [Int.toNat_natCast]
    have hlow := cut_lower c L i
    have key := row_ag (chunkAt c L i) (chunk_len1 c hc L i hil) (chunk_len8 c (by omega) L i) w (rd S (i : Int)) hw0 hw k (by omega)
    have fin : Ag 40 ((preset_size_row.f k w (rd S (i : Int)) (chunkAt c L i)).bind fun bt274 => (if bt274.2.2.2.2 = true then (if acc.length < 2932031007402 then (preset_sharedG.l0 layRow k 2 S (chunksN c many L) (many : Int) (wrap64 ((i : Int) + 1)) w h 2 0 0 (acc ++ [(⟨bt274.1, bt274.2.1, rd S (i : Int), bt274.2.2.2.1⟩ : S31)])) else (none)) else (some (0, 0, 0, ([] : List (S31)), false))))
        ((backseatref12_Line.f k (chunkAt c L i) 1 w (rd S (i : Int))).bind fun bt398 => (if bt398.2.2.2.2 = true then (if acc.length < 2932031007402 then (backseatref12_Rows.l1 k L w (c : Int) S (many : Int) (wrap64 ((i : Int) + 1)) 2 0 0 (acc ++ [(⟨bt398.1, bt398.2.1, rd S (i : Int), bt398.2.2.2.1⟩ : S31)])) else (none)) else (some (0, 0, 0, ([] : List (S31)), false)))) := by
      obtain ⟨a, b, hA, hB, hi1, hy, hf⟩ := key
      rw [hA, hB]
      simp only [Option.bind_some]
      by_cases ht : a.2.2.2.2 = true
      · obtain ⟨rfl, hs⟩ := hy ht
        rw [if_pos ht, if_pos ht, if_pos (by omega), if_pos (by omega), wrap_i (by omega) (by omega), show ((i : Int) + 1) = ((i + 1 : Nat) : Int) by omega]
        refine ih (i + 1) _ k (by omega) (by rw [List.length_append, ha]; rfl) ?_ (by omega)
        intro x hx
        rcases List.mem_append.1 hx with hx | hx
        · exact hac x hx
        · rw [List.mem_singleton.1 hx]
          exact hs
      · rw [if_neg ht, if_neg (by rw [← hi1]; exact ht)]
        exact ⟨_, _, rfl, rfl, rfl, fun h => (by cases h), fun _ => rfl⟩
    by_cases hup : ((c * (i + 1) : Nat) : Int) > (L.length : Int)
    · rw [if_pos hup, if_pos (by omega), if_pos (by omega), if_pos (by omega), if_pos (by omega), if_pos (by omega), cut_upper c L i (by omega)]
      exact fin
    · rw [if_neg hup, if_pos (by omega), if_pos (by have : c * i ≤ c * (i + 1) := Nat.mul_le_mul_left c (by omega); omega), if_pos (by omega), if_pos (by omega), if_pos (by omega), hlow]
      exact fin
theorem many_eq (n c : Nat) (h1 : 1 ≤ n) (h8 : n ≤ 8) (hc : 1 ≤ c) (hc3 : c ≤ 3) : wrap64 (Int.tdiv (wrap64 ((wrap64 ((n : Int) + (c : Int))) - 1)) (c : Int)) = (rowsN n c : Int) := by
  unfold rowsN
  rw [wrap_i (i := (n : Int) + (c : Int)) (by omega) (by omega), wrap_i (i := (n : Int) + (c : Int) - 1) (by omega) (by omega), Int.tdiv_eq_ediv_of_nonneg (by omega), show ((n : Int) + (c : Int) - 1) = ((n + c - 1 : Nat) : Int) by omega, ← Int.natCast_ediv]
  have hq : (n + c - 1) / c ≤ n + c - 1 := Nat.div_le_self _ _
  generalize (n + c - 1) / c = q at hq ⊢
  exact wrap_i (by omega) (by omega)
theorem rows_at (L : List Int) (h1 : 1 ≤ L.length) (h8 : L.length ≤ 8) (c : Nat) (hc : 1 ≤ c) (hc3 : c ≤ 3) (hcc : L.length ≤ c * c) (w h : Int) (hw0 : 0 ≤ w) (hw : w ≤ 80) (hh0 : 0 ≤ h) (hh : h ≤ 80) (k : Nat) (hk : 140 ≤ k) :
    Ag 40 (preset_sharedRow.f k w h 2 (chunksN c (rowsN L.length c) L) 46)
      (if wrap64 (Int.tdiv (wrap64 ((wrap64 ((L.length : Int) + (c : Int))) - 1)) (c : Int)) = 1 then ((backseatref12_Line.f k L 1 w h).bind fun bt385 => (some (bt385.1, bt385.2.1, bt385.2.2.1, bt385.2.2.2.1, bt385.2.2.2.2))) else ((backseatref12_Even.f k h (wrap64 (Int.tdiv (wrap64 ((wrap64 ((L.length : Int) + (c : Int))) - 1)) (c : Int)))).bind fun t392 => (backseatref12_Rows.l1 k L w (c : Int) t392 (t392.length : Int) 0 2 0 0 ([] : List (S31))))) := by
  rw [many_eq L.length c h1 h8 hc hc3, bind5]
  have hle := rowsN_le (n := L.length) hc
  have hlt : ∀ i, i < rowsN L.length c → i * c < L.length := fun i hi => rowsN_lt hc hi
  generalize rowsN L.length c = many at hle hlt
  have hm1 : 1 ≤ many := by
    rcases Nat.eq_zero_or_pos many with h0 | h0
    · subst h0; omega
    · exact h0
  have hm3 : many ≤ c := by
    rcases Nat.lt_or_ge c many with h0 | h0
    · have := hlt c h0; omega
    · exact h0
  unfold preset_sharedRow.f preset_sharedG.f
  rw [chunksN_length]
  by_cases hmm : (many : Int) = 1
  · rw [if_pos hmm, if_pos hmm, if_pos (by omega), row_F, show (0 : Int) = ((0 : Nat) : Int) from rfl, rd_chunks c many L 0 (by omega)]
    have e : chunkAt c L 0 = L := by
      unfold chunkAt
      rw [Nat.zero_mul, List.drop_zero, List.take_of_length_le]
      have : many = 1 := by omega
      subst this
      omega
    rw [e, bind5]
    exact Ag_mono (row_ag L h1 h8 w h hw0 hw k (by omega)) (by omega)
  · rw [if_neg hmm, if_neg hmm, show preset_size_along.f w h 2 = some h from rfl]
    simp only [Option.bind_some]
    obtain ⟨l, e, l2, he1, he2, hcase⟩ := even_both (c := h) hh0 hh hm1 (by omega)
    rw [he1 k (by omega), he2 k (by omega)]
    simp only [Option.bind_some]
    rcases hcase with ⟨rfl, hne⟩ | ⟨hne, rfl, rfl, hlen, hb⟩
    · rw [if_neg hne]
      obtain ⟨k, rfl⟩ : ∃ m, k = m + 1 := ⟨k - 1, by omega⟩
      simp only [backseatref12_Rows.l1]
      exact ⟨(0, 0, 0, [], false), (2, 0, 0, [], false), rfl, by rw [if_neg (by simp)]; rfl, rfl, fun h => (by cases h), fun _ => rfl⟩
    · rw [if_pos rfl, hlen]
      exact rows_loop L l2 c many hc hc3 h8 hlen (by omega) hm1 hlt w h hw0 hw many 0 [] k (by omega) rfl (by simp) (by omega)
theorem chunk_f (L : List Int) (h1 : 1 ≤ L.length) (h8 : L.length ≤ 8) (c : Nat) (hc : 1 ≤ c) (hc3 : c ≤ 3) : slices_Chunk_int_int.f L (c : Int) = some (chunksN c (rowsN L.length c) L) := by
  unfold slices_Chunk_int_int.f
  rw [if_pos ⟨h1, by omega, by omega, by omega⟩, Int.toNat_natCast]
/-- The last step of both searches for c. -/
theorem rows_stop (L : List Int) (h1 : 1 ≤ L.length) (h8 : L.length ≤ 8) (c : Nat) (hc : 1 ≤ c) (hc3 : c ≤ 3) (hcc : L.length ≤ c * c) (w h : Int) (hw0 : 0 ≤ w) (hw : w ≤ 80) (hh0 : 0 ≤ h) (hh : h ≤ 80) (k : Nat) (hk : 140 ≤ k) :
    Ag 40 (preset_size_rows.l0 (k + 1) L (c : Int) w h) (backseatref12_Rows.l0 (k + 1) L w h (c : Int)) := by
  have hw2 : wrap64 ((c : Int) * (c : Int)) = ((c * c : Nat) : Int) := by
    rw [← Int.natCast_mul]
    have : c * c ≤ 3 * 3 := Nat.mul_le_mul hc3 hc3
    exact wrap_i (by omega) (by omega)
  simp only [preset_size_rows.l0, backseatref12_Rows.l0]
  rw [hw2, if_neg (by omega), if_neg (by omega), if_neg (show ¬ ((c : Int) = 0) by omega), chunk_f L h1 h8 c hc hc3]
  simp only [Option.bind_some, slices_Collect_int.f]
  rw [bind5]
  exact rows_at L h1 h8 c hc hc3 hcc w h hw0 hw hh0 hh k hk
theorem rows_go (L : List Int) (c : Nat) (hc3 : c ≤ 3) (hcc : c * c < L.length) (w h : Int) (k : Nat) :
    preset_size_rows.l0 (k + 1) L (c : Int) w h = preset_size_rows.l0 k L ((c + 1 : Nat) : Int) w h ∧ backseatref12_Rows.l0 (k + 1) L w h (c : Int) = backseatref12_Rows.l0 k L w h ((c + 1 : Nat) : Int) := by
  have hw2 : wrap64 ((c : Int) * (c : Int)) = ((c * c : Nat) : Int) := by
    rw [← Int.natCast_mul]
    have : c * c ≤ 3 * 3 := Nat.mul_le_mul hc3 hc3
    exact wrap_i (by omega) (by omega)
  have hw1 : wrap64 ((c : Int) + 1) = ((c + 1 : Nat) : Int) := by rw [wrap_i (by omega) (by omega)]; omega
  constructor
  · rw [preset_size_rows.l0, hw2, if_pos (by omega), hw1]
  · rw [backseatref12_Rows.l0, hw2, if_pos (by omega), hw1]
theorem rows_ag (L : List Int) (h1 : 1 ≤ L.length) (h8 : L.length ≤ 8) (w h : Int) (hw0 : 0 ≤ w) (hw : w ≤ 80) (hh0 : 0 ≤ h) (hh : h ≤ 80) (k : Nat) (hk : 150 ≤ k) : Ag 40 (preset_size_rows.f k w h L) (backseatref12_Rows.f k L w h) := by
  unfold preset_size_rows.f backseatref12_Rows.f
  obtain ⟨k, rfl⟩ : ∃ m, k = m + 3 := ⟨k - 3, by omega⟩
  rw [show (1 : Int) = ((1 : Nat) : Int) from rfl]
  by_cases c1 : L.length ≤ 1 * 1
  · exact rows_stop L h1 h8 1 (by omega) (by omega) c1 w h hw0 hw hh0 hh (k + 2) (by omega)
  · rw [(rows_go L 1 (by omega) (by omega) w h (k + 2)).1, (rows_go L 1 (by omega) (by omega) w h (k + 2)).2]
    by_cases c2 : L.length ≤ 2 * 2
    · exact rows_stop L h1 h8 2 (by omega) (by omega) c2 w h hw0 hw hh0 hh (k + 1) (by omega)
    · rw [(rows_go L 2 (by omega) (by omega) w h (k + 1)).1, (rows_go L 2 (by omega) (by omega) w h (k + 1)).2]
      exact rows_stop L h1 h8 3 (by omega) (by omega) (by omega) w h hw0 hw hh0 hh k (by omega)
end Go.Proofs.Ytplngfammfdemaa
end
section
namespace Go.Proofs.Ytplngfammfdemaa.Q
open Go.RowKit Go.Proofs.Ytplngfammfdemaa Go.Proofs.YtplngfammfdemaaW.PrintWords Go.Proofs.YtplngfammfdemaaW.PrintLast Go.Proofs.YtplngfammfdemaaW.PrintMore
attribute [local go_sem] max2_int min2_int max_two min_two max_three min_three max_four min_four   -- for this text's walks alone
set_option linter.unusedVariables false
set_option linter.unusedSimpArgs false
def slices_Index_int_int.l0 : Nat → List Int → Int → Int → Int → Option (Int)
  | 0, _, _, _, _ => none
  | k + 1, x0, x1, x7, x8 => if x8 < x7 then (if 0 ≤ x8 then (if x8 < (x0.length : Int) then (if x1 = (rd x0 x8) then (some x8) else (slices_Index_int_int.l0 k x0 x1 x7 (wrap64 (x8 + 1)))) else (none)) else (none)) else (some (-1))
def slices_Index_int_int.f (k : Nat) (l0 : List Int) (a1 : Int) : Option (Int) := slices_Index_int_int.l0 k l0 a1 (l0.length : Int) 0
theorem slices_Index_int_int.mono_l : ∀ k, (∀ y0 y1 y2 y3, LeO (slices_Index_int_int.l0 k y0 y1 y2 y3) (slices_Index_int_int.l0 (k + 1) y0 y1 y2 y3))
  | 0 => fun _ _ _ _ r h => by simp [slices_Index_int_int.l0] at h
  | k + 1 => by
    have ih0 := slices_Index_int_int.mono_l k
    · intro y0 y1 y2 y3
      unfold slices_Index_int_int.l0
      repeat' first
      | (with_reducible exact ih0 _ _ _ _)
      | (with_reducible exact LeO.refl _)
      | (with_reducible exact LeO.none _)
      | (with_reducible refine LeO.ite ?_ ?_)
      | (with_reducible refine LeO.bind ?_ (fun _ => ?_))
      | exact ih0 _ _ _ _
      | exact LeO.none _
      | refine LeO.ite ?_ ?_
      | refine LeO.bind ?_ (fun _ => ?_)
theorem slices_Index_int_int.mono : ∀ a0 a1 k, LeO (slices_Index_int_int.f k a0 a1) (slices_Index_int_int.f (k + 1) a0 a1) := by
  intro a0 a1 k
  have ih0 := slices_Index_int_int.mono_l k
  unfold slices_Index_int_int.f
  repeat' first
      | (with_reducible exact ih0 _ _ _ _)
      | (with_reducible exact LeO.refl _)
      | (with_reducible exact LeO.none _)
      | (with_reducible refine LeO.ite ?_ ?_)
      | (with_reducible refine LeO.bind ?_ (fun _ => ?_))
      | exact ih0 _ _ _ _
      | exact LeO.none _
      | refine LeO.ite ?_ ?_
      | refine LeO.bind ?_ (fun _ => ?_)
set_option maxHeartbeats 8000000 in
set_option maxRecDepth 100000 in
theorem slices_Index_int_int.calls (k : Nat) (A0 : Option Addr) (c0 : Nat) (l0 : List Int) (a1 : Int) (r : Int) (w : World) (hr0 : Kd.C (Kd.int .i64) w A0 l0.length l0) (hc0 : l0.length ≤ c0) (h : slices_Index_int_int.f k l0 a1 = some r) :
    Calls Try.prog 87 #[.slice A0 l0.length c0, .int .i64 a1] w fun e w' => e = .returned (.int .i64 r) ∧ Drawn0 w w' := by
  have HR0 := Aside0.mk hr0
  have HC0 := Aside0.mk hc0
  clear hr0 hc0
  have H : (slices_Index_int_int.l0 k l0 a1 (l0.length : Int) 0) = some r := h
  clear h
  have H' := Aside0.mk H
  clear H
  go_enter Try.func87, Try.ntmps87
  go_wp2
  go_loopg [8] k (fun kq v8 w' => ∃ (x8_1 : Int), v8 = .int .i64 x8_1 ∧ Aside0 (slices_Index_int_int.l0 kq l0 a1 (l0.length : Int) x8_1 = some r) ∧ Aside0 (kq ≤ k) ∧ Drawn0 w w')
  case atStart => exact ⟨(0), (by first | rfl | (simp; done) | (simp [*]; done)), H', ⟨Nat.le_refl _⟩, by repeat (first | exact Drawn0.refl _ | apply Drawn0.step)⟩
  case round =>
    clear H'
    try clear p2
    obtain ⟨x8_1, rfl, HA, HK1, ⟨m1, rfl⟩⟩ := hrel
    cases gk with
    | zero => exact absurd HA.out (by simp [slices_Index_int_int.l0])
    | succ k1 =>
      have H := HA.out
      clear HA
      simp only [slices_Index_int_int.l0] at H
      by_cases c3 : x8_1 < (l0.length : Int)
      · rw [if_pos c3] at H
        have c3b0 : decide (x8_1 < (l0.length : Int)) = true := decide_eq_true c3
        clear c3
        by_cases c4 : 0 ≤ x8_1
        · rw [if_pos c4] at H
          have c4b0 : decide (0 ≤ x8_1) = true := decide_eq_true c4
          clear c4
          by_cases c5 : x8_1 < (l0.length : Int)
          · rw [if_pos c5] at H
            have c5b0 : decide (x8_1 < (l0.length : Int)) = true := decide_eq_true c5
            clear c5
            by_cases c6 : a1 = (rd l0 x8_1)
            · rw [if_pos c6] at H
              have c6b0 : (a1 == (rd l0 x8_1)) = true := beq_iff_eq.mpr c6
              have c6b1 : (a1 != (rd l0 x8_1)) = false := bne_eq_false_iff_eq.mpr c6
              clear c6
              obtain rfl := Option.some.inj H
              have p301 : 0 ≤ (x8_1 : Int) := of_decide_eq_true (by first | (with_reducible assumption) | assumption)
              have q301 : x8_1 < (l0.length : Int) := of_decide_eq_true (by first | (with_reducible assumption) | assumption)
              obtain ⟨ad301, e301, hx301_0⟩ := Kd.at_int HR0.out x8_1 p301 q301
              cases e301
              replace p301 := eq_true p301
              replace q301 := eq_true q301
              go_wp2
              go_ret
              exact ⟨by first | rfl | (simp; done) | (simp [*]; done), by repeat (first | exact Drawn0.refl _ | apply Drawn0.step)⟩
            · rw [if_neg c6] at H
              have c6b0 : (a1 == (rd l0 x8_1)) = false := beq_eq_false_iff_ne.mpr c6
              have c6b1 : (a1 != (rd l0 x8_1)) = true := bne_iff_ne.mpr c6
              have H' := Aside0.mk H
              clear H
              have p301 : 0 ≤ (x8_1 : Int) := of_decide_eq_true (by first | (with_reducible assumption) | assumption)
              have q301 : x8_1 < (l0.length : Int) := of_decide_eq_true (by first | (with_reducible assumption) | assumption)
              obtain ⟨ad301, e301, hx301_0⟩ := Kd.at_int HR0.out x8_1 p301 q301
              cases e301
              replace p301 := eq_true p301
              replace q301 := eq_true q301
              go_wp2
              go_roundg k1
              case measure => have := HK1.out; omega
              case rel => exact ⟨(wrap64 (x8_1 + 1)), (by first | rfl | (simp; done) | (simp [*]; done)), H', ⟨by have := HK1.out; omega⟩, by repeat (first | exact Drawn0.refl _ | apply Drawn0.step)⟩
          · rw [if_neg c5] at H
            exact absurd H (by simp)
        · rw [if_neg c4] at H
          exact absurd H (by simp)
      · rw [if_neg c3] at H
        have c3b0 : decide (x8_1 < (l0.length : Int)) = false := decide_eq_false c3
        clear c3
        obtain rfl := Option.some.inj H
        go_wp2
        go_ret
        exact ⟨by first | rfl | (simp; done) | (simp [*]; done), by repeat (first | exact Drawn0.refl _ | apply Drawn0.step)⟩
def slices_Contains_int_int.f (k : Nat) (l0 : List Int) (a1 : Int) : Option (Bool) := (slices_Index_int_int.f k l0 a1).bind fun t302 => (some (decide (t302 ≥ 0)))
theorem slices_Contains_int_int.mono : ∀ a0 a1 k, LeO (slices_Contains_int_int.f k a0 a1) (slices_Contains_int_int.f (k + 1) a0 a1) := by
  intro a0 a1 k
  unfold slices_Contains_int_int.f
  repeat' first
      | (with_reducible exact slices_Index_int_int.mono _ _ _)
      | (with_reducible exact LeO.refl _)
      | (with_reducible exact LeO.none _)
      | (with_reducible refine LeO.ite ?_ ?_)
      | (with_reducible refine LeO.bind ?_ (fun _ => ?_))
      | exact slices_Index_int_int.mono _ _ _
      | exact LeO.none _
      | refine LeO.ite ?_ ?_
      | refine LeO.bind ?_ (fun _ => ?_)
set_option maxHeartbeats 8000000 in
set_option maxRecDepth 100000 in
theorem slices_Contains_int_int.calls (k : Nat) (A0 : Option Addr) (c0 : Nat) (l0 : List Int) (a1 : Int) (r : Bool) (w : World) (hr0 : Kd.C (Kd.int .i64) w A0 l0.length l0) (hc0 : l0.length ≤ c0) (h : slices_Contains_int_int.f k l0 a1 = some r) :
    Calls Try.prog 51 #[.slice A0 l0.length c0, .int .i64 a1] w fun e w' => e = .returned (.bool r) ∧ Drawn0 w w' := by
  have HR0 := Aside0.mk hr0
  have HC0 := Aside0.mk hc0
  clear hr0 hc0
  have H : ((slices_Index_int_int.f k l0 a1).bind fun t302 => (some (decide (t302 ≥ 0)))) = some r := h
  clear h
  replace H := Option.bind_eq_some_iff.mp H
  obtain ⟨t302, A30, H⟩ := H
  replace H : (some (decide (t302 ≥ 0))) = some r := H
  have A3 := Aside0.mk A30
  clear A30
  obtain rfl := Option.some.inj H
  go_enter Try.func51, Try.ntmps51
  go_wp2_with (first | ((with_reducible refine gate_callee (f := 87) rfl ?_); refine goesL_ (some 7) rfl rfl Try.func87 (by kernel_rfl) rfl #[.slice A0 l0.length c0, .int .i64 a1] rfl (by (try simp only [List.map_toArray, List.map_cons, List.map_nil]); first | done | rfl | (simp only [List.length_drop, List.length_take]; rfl)) ?_; (with_reducible refine (slices_Index_int_int.calls k _ _ l0 a1 t302 _ ?side1 ?side2 A3.out).mono ?_); (case side1 => repeat (first | exact HR0.out | (with_reducible refine Kd.C_alloc ?_ _) | (with_reducible refine Kd.C_drewN ?_ _) | (with_reducible refine Kd.C_drew ?_))); (case side2 => exact HC0.out); rintro e w' ⟨rfl, ⟨nd, rfl⟩⟩; refine ⟨_, rfl, ?_⟩))
  go_ret
  exact ⟨by first | rfl | (simp; done) | (simp [*]; done), by repeat (first | exact Drawn0.refl _ | apply Drawn0.step)⟩
end Go.Proofs.Ytplngfammfdemaa.Q
end
section
namespace Go.Proofs.Ytplngfammfdemaa
open Go.RowKit Go.Proofs.YtplngfammfdemaaW.PrintWords Go.Proofs.YtplngfammfdemaaW.PrintLast Go.Proofs.YtplngfammfdemaaW.PrintMore Q
set_option linter.unusedVariables false
set_option linter.unusedSimpArgs false
noncomputable def layFn : Nat → Func
  | 0 => Try.f46
  | 1 => Try.f47
  | 2 => Try.f48
  | 3 => Try.f49
  | _ => Try.f50
theorem layFn_at {i : Nat} (h : i < 5) : Try.prog.funcs[46 + i]? = some (layFn i) := by
  rcases (show i = 0 ∨ i = 1 ∨ i = 2 ∨ i = 3 ∨ i = 4 by omega) with rfl | rfl | rfl | rfl | rfl
  · exact Try.func46
  · exact Try.func47
  · exact Try.func48
  · exact Try.func49
  · exact Try.func50
theorem layFn_name {i : Nat} (h : i < 5) : ((layFn i).name == "runtime.NumGoroutine") = false := by
  rcases (show i = 0 ∨ i = 1 ∨ i = 2 ∨ i = 3 ∨ i = 4 by omega) with rfl | rfl | rfl | rfl | rfl <;> kernel_rfl
theorem layFn_body {i : Nat} (h : i < 5) : (layFn i).body.isSome = true := by
  rcases (show i = 0 ∨ i = 1 ∨ i = 2 ∨ i = 3 ∨ i = 4 by omega) with rfl | rfl | rfl | rfl | rfl <;> rfl
theorem layHow_cell {w : World} {g i : Nat} (hb : w.heap[g]? = some (.cells #[.func (.func 46) #[] #[], .func (.func 47) #[] #[], .func (.func 48) #[] #[], .func (.func 49) #[] #[], .func (.func 50) #[] #[]] 84 (0, 0))) (h : i < 5) : w.cell? ⟨g, i, none⟩ = some (.func (.func (46 + i)) #[] #[]) := by
  rcases (show i = 0 ∨ i = 1 ∨ i = 2 ∨ i = 3 ∨ i = 4 by omega) with rfl | rfl | rfl | rfl | rfl
  · exact (blk_cell hb 0).trans rfl
  · exact (blk_cell hb 1).trans rfl
  · exact (blk_cell hb 2).trans rfl
  · exact (blk_cell hb 3).trans rfl
  · exact (blk_cell hb 4).trans rfl
def preset_layHow.f (k : Nat) (i w h : Int) (l : List Int) : Option (Int × Int × Int × (List (S31)) × Bool) :=
  if i = 0 then preset_size_row.f k w h l else if i = 1 then preset_size_pile.f k w h l else if i = 2 then preset_size_left.f k w h l else if i = 3 then preset_size_top.f k w h l else if i = 4 then preset_size_rows.f k w h l else none
theorem preset_layHow.mono : ∀ a0 a1 a2 a3 k, LeO (preset_layHow.f k a0 a1 a2 a3) (preset_layHow.f (k + 1) a0 a1 a2 a3) := by
  intro a0 a1 a2 a3 k
  unfold preset_layHow.f
  refine LeO.ite (preset_size_row.mono _ _ _ _) (LeO.ite (preset_size_pile.mono _ _ _ _) (LeO.ite (preset_size_left.mono _ _ _ _) (LeO.ite (preset_size_top.mono _ _ _ _) (LeO.ite (preset_size_rows.mono _ _ _ _) (LeO.refl _)))))
theorem layHow_idx {k : Nat} {i w h : Int} {l : List Int} {r : Int × Int × Int × (List (S31)) × Bool} (hf : preset_layHow.f k i w h l = some r) : ∃ j : Nat, j < 5 ∧ i = (j : Int) := by
  unfold preset_layHow.f at hf
  by_cases h0 : i = 0
  · exact ⟨0, by omega, h0⟩
  by_cases h1 : i = 1
  · exact ⟨1, by omega, h1⟩
  by_cases h2 : i = 2
  · exact ⟨2, by omega, h2⟩
  by_cases h3 : i = 3
  · exact ⟨3, by omega, h3⟩
  by_cases h4 : i = 4
  · exact ⟨4, by omega, h4⟩
  rw [if_neg h0, if_neg h1, if_neg h2, if_neg h3, if_neg h4] at hf
  cases hf
theorem toN {f : FuncId} {args : Array Value} {w : World} {r1 r2 r3 : Int} {r4 : List S31} {r5 : Bool} (h : Calls Try.prog f args w fun e w' => ∃ v3_ : Value, e = .returned (.tuple #[.agg #[.int .i64 r1, .int .i64 r2, .int .i64 r3, v3_], .bool r5]) ∧ Kd.R k31 31 w' w.heap.size (fun _ => True) v3_ r4 ∧ Below w.heap.size w w') :
    Calls Try.prog f args w fun e w' => ∃ v3_ : Value, e = .returned (.tuple #[.agg #[.int .i64 r1, .int .i64 r2, .int .i64 r3, v3_], .bool r5]) ∧ Kd.N k31 31 w' w.heap.size (fun k_ => w.heap.size ≤ k_) v3_ r4 ∧ Below w.heap.size w w' := by
  refine h.mono ?_
  rintro e w' ⟨v, rfl, hr, hb⟩
  exact ⟨v, rfl, Kd.N_mono (Kd.R_N (Kd.R_bound hr)) (fun k hk => hk.2.1), hb⟩
theorem preset_layHow.callsN (k j : Nat) (a0_0 a0_1 : Int) (A1 : Option Addr) (c1 : Nat) (l1 : List Int) (r1 : Int) (r2 : Int) (r3 : Int) (r4 : List (S31)) (r5 : Bool) (w : World) (hr1 : Kd.C (Kd.int .i64) w A1 l1.length l1) (hc1 : l1.length ≤ c1) (h : preset_layHow.f k (j : Int) a0_0 a0_1 l1 = some (r1, r2, r3, r4, r5)) :
    Calls Try.prog (46 + j) #[.agg #[.int .i64 a0_0, .int .i64 a0_1], .slice A1 l1.length c1] w fun e w' => ∃ v3_ : Value, e = .returned (.tuple #[.agg #[.int .i64 r1, .int .i64 r2, .int .i64 r3, v3_], .bool r5]) ∧ Kd.N k31 31 w' w.heap.size (fun k_ => w.heap.size ≤ k_) v3_ r4 ∧ Below w.heap.size w w' := by
  obtain ⟨j', hj, he⟩ := layHow_idx h
  have : j = j' := by omega
  subst this
  rcases (show j = 0 ∨ j = 1 ∨ j = 2 ∨ j = 3 ∨ j = 4 by omega) with rfl | rfl | rfl | rfl | rfl
  · exact toN (preset_size_row.calls k a0_0 a0_1 A1 c1 l1 r1 r2 r3 r4 r5 w hr1 hc1 h)
  · exact toN (preset_size_pile.calls k a0_0 a0_1 A1 c1 l1 r1 r2 r3 r4 r5 w hr1 hc1 h)
  · exact preset_size_left.calls k a0_0 a0_1 A1 c1 l1 r1 r2 r3 r4 r5 w hr1 hc1 h
  · exact preset_size_top.calls k a0_0 a0_1 A1 c1 l1 r1 r2 r3 r4 r5 w hr1 hc1 h
  · exact toN (preset_size_rows.calls k a0_0 a0_1 A1 c1 l1 r1 r2 r3 r4 r5 w hr1 hc1 h)
end Go.Proofs.Ytplngfammfdemaa
end
section
namespace Go.Proofs.Ytplngfammfdemaa
open Go.RowKit Go.Shelf Go.Proofs.YtplngfammfdemaaW.PrintWords Go.Proofs.YtplngfammfdemaaW.PrintLast Go.Proofs.YtplngfammfdemaaW.PrintMore Q
attribute [local go_sem] Oper.semAt_some
set_option linter.unusedVariables false
set_option linter.unusedSimpArgs false
def allK (f : S31 → Option (List Int)) : List S31 → Option (List Int)
  | [] => some []
  | x :: l => (f x).bind fun a => (allK f l).bind fun b => some (a ++ b)
def panesK : Nat → S31 → Option (List Int)
  | 0, _ => none
  | k + 1, t => if t.f0 = 0 then some [t.f1] else if t.f3.length < 1000000000000000000 then allK (panesK k) t.f3 else none
theorem allK_snoc (f : S31 → Option (List Int)) (l : List S31) (x : S31) : allK f (l ++ [x]) = (allK f l).bind fun a => (f x).bind fun b => some (a ++ b) := by
  induction l with
  | nil => simp [allK]
  | cons y l ih =>
    simp only [List.cons_append, allK, ih]
    cases f y with
    | none => rfl
    | some a =>
      cases allK f l with
      | none => rfl
      | some b => cases f x <;> simp
theorem allK_take {f : S31 → Option (List Int)} {l : List S31} {r : List Int} (h : allK f l = some r) : ∀ i, i ≤ l.length → ∃ a b, allK f (l.take i) = some a ∧ r = a ++ b := by
  induction l generalizing r with
  | nil => intro i hi; exact ⟨[], r, by simp [allK], by simp⟩
  | cons y l ih =>
    intro i hi
    cases i with
    | zero => exact ⟨[], r, rfl, rfl⟩
    | succ i =>
      simp only [allK] at h
      obtain ⟨a, ha, h⟩ := Option.bind_eq_some_iff.1 h
      obtain ⟨b, hb, h⟩ := Option.bind_eq_some_iff.1 h
      obtain rfl := Option.some.inj h
      obtain ⟨c, d, h1, rfl⟩ := ih hb i (by simpa using hi)
      exact ⟨a ++ c, d, by simp [allK, ha, h1], by simp⟩
theorem rd31_get (l : List S31) (i : Nat) (h : i < l.length) : rd_T31 l (i : Int) = l[i] := by
  unfold rd_T31
  rw [Int.toNat_natCast, List.getD_eq_getElem?_getD, List.getElem?_eq_getElem h]; rfl
/-- One kid on. -/
theorem allK_step {f : S31 → Option (List Int)} {l : List S31} {r a : List Int} (h : allK f l = some r) {i : Nat} (hi : i < l.length) (ha : allK f (l.take i) = some a) : ∃ b c, f (rd_T31 l (i : Int)) = some b ∧ allK f (l.take (i + 1)) = some (a ++ b) ∧ r = a ++ b ++ c := by
  obtain ⟨a', c, h1, h2⟩ := allK_take h (i + 1) hi
  rw [List.take_succ_eq_append_getElem hi, allK_snoc, ha] at h1
  simp only [Option.bind_some] at h1
  obtain ⟨b, hb, h1⟩ := Option.bind_eq_some_iff.1 h1
  obtain rfl := Option.some.inj h1
  exact ⟨b, c, by rw [rd31_get l i hi]; exact hb, by rw [List.take_succ_eq_append_getElem hi, allK_snoc, ha, hb]; rfl, h2⟩
def treeV (x : S31) (A : Option Addr) (c : Nat) : Value := .agg #[.int .i64 x.f0, .int .i64 x.f1, .int .i64 x.f2, .slice A x.f3.length c]
set_option maxRecDepth 100000 in
set_option maxHeartbeats 4000000 in
theorem each_in (l : Nat) (J Jx : List Int → World → Prop) (w0 : World) (N : Nat) (hJ : ∀ s W W', J s W → Below W.heap.size W W' → J s W')
    (hY : ∀ pre x W, J pre W → pre.length < N → YieldAt Fence.wide 3 Try.prog l #[.int .i64 x] W fun e W' =>
      (e = .returned (.bool true) ∧ J (pre ++ [x]) W' ∧ Below w0.heap.size W W') ∨ (e = .returned (.bool false) ∧ Jx (pre ++ [x]) W')) :
    ∀ k (x : S31) ps, panesK k x = some ps → ∀ A c, Kd.C k31 w0 A x.f3.length x.f3 → ∀ pre W, Below w0.heap.size w0 W → J pre W → pre.length + ps.length ≤ N →
    CallsIn Fence.wide 4 Try.prog 98 #[treeV x A c, .func (.yield l) #[] #[]] W fun e W' =>
      (e = .returned (.bool true) ∧ J (pre ++ ps) W' ∧ Below w0.heap.size W W') ∨ (e = .returned (.bool false) ∧ ∃ q, q <+: pre ++ ps ∧ Jx q W') := by
  intro k
  induction k with
  | zero => intro x ps h; cases h
  | succ k ih =>
    intro x ps h A c hC pre W hW hj hN
    have hu31 := Try.underlying31
    have HIH := Aside0.mk ih
    have HC := Aside0.mk hC
    have HW := Aside0.mk hW
    have HJ0 := Aside0.mk hj
    have HJB := Aside0.mk hJ
    have HY := Aside0.mk hY
    clear ih hC hj hJ hY
    simp only [panesK] at h
    have hle := hW.size
    unfold treeV
    by_cases h0 : x.f0 = 0
    · rw [if_pos h0] at h
      obtain rfl := Option.some.inj h
      have c0 : (x.f0 == 0) = true := beq_iff_eq.2 h0
      clear h h0
      refine callsIn_of_wp Try.func98 rfl trivial ?_ rfl
      simp only [Try.ntmps98, List.size_toArray, List.length_cons, List.length_nil, Nat.reduceAdd, Nat.reduceSub, Array.replicate_succ, Array.replicate_zero, List.push_toArray, List.append_toArray, List.nil_append, List.cons_append]
      have HA := Aside0.mk (Below.alloc (Below.refl W.heap.size W) (Nat.le_refl _) (.cells #[.int .i64 x.f0, .int .i64 x.f1, .int .i64 x.f2, .slice A x.f3.length c] 31))
      obtain ⟨fn, tmps, assign, body, hy, hR⟩ := HY.out pre x.f1 (W.alloc (.cells #[.int .i64 x.f0, .int .i64 x.f1, .int .i64 x.f2, .slice A x.f3.length c] 31)) (HJB.out _ _ _ HJ0.out HA.out) (by simp at hN; omega)
      have HR := Aside0.mk hR
      clear hR hN
      gi_wp2
      refine HR.out.mono ?_
      rintro e W3 (⟨rfl, hJ3, hk3⟩ | ⟨rfl, hJx3⟩)
      · have HJ3 := Aside0.mk hJ3
        have HK3 := Aside0.mk hk3
        clear hJ3 hk3
        gi_wp2
        go_ret
        exact .inl ⟨rfl, HJ3.out, (HA.out.mono hle).trans HK3.out⟩
      · gi_wp2
        go_ret
        exact .inr ⟨rfl, _, List.prefix_refl _, hJx3⟩
    · rw [if_neg h0] at h
      have c0 : (x.f0 == 0) = false := beq_eq_false_iff_ne.2 h0
      clear h0
      by_cases hlen : x.f3.length < 1000000000000000000
      · rw [if_pos hlen] at h
        have HH := Aside0.mk h
        have HN := Aside0.mk hN
        have HL := Aside0.mk hlen
        have HW0 := Aside0.mk (HW.out.alloc hW.size (.cells #[.int .i64 x.f0, .int .i64 x.f1, .int .i64 x.f2, .slice A x.f3.length c] 31))
        have HJ1 := Aside0.mk (HJB.out _ _ _ HJ0.out (Below.alloc (Below.refl W.heap.size W) (Nat.le_refl _) (.cells #[.int .i64 x.f0, .int .i64 x.f1, .int .i64 x.f2, .slice A x.f3.length c] 31)))
        have HBA := Aside0.mk ((Below.refl w0.heap.size W).alloc hle (.cells #[.int .i64 x.f0, .int .i64 x.f1, .int .i64 x.f2, .slice A x.f3.length c] 31))
        clear h hN hlen HJ0 hW
        refine callsIn_of_wp Try.func98 rfl trivial ?_ rfl
        simp only [Try.ntmps98, List.size_toArray, List.length_cons, List.length_nil, Nat.reduceAdd, Nat.reduceSub, Array.replicate_succ, Array.replicate_zero, List.push_toArray, List.append_toArray, List.nil_append, List.cons_append]
        gi_wp2
        gi_loopw [17] (fun i wr => ∃ j : Nat, i = .int .i64 j ∧ Aside0 (j ≤ x.f3.length ∧ ∃ a, allK (panesK k) (x.f3.take j) = some a ∧ J (pre ++ a) wr ∧ Below w0.heap.size W wr))
          (fun i _ => x.f3.length - (intOf i).toNat)
        case atStart => exact ⟨0, rfl, ⟨Nat.zero_le _, [], rfl, by rw [List.append_nil]; exact HJ1.out, HBA.out⟩⟩
        case round =>
          obtain ⟨j, rfl, HR⟩ := hrel
          obtain ⟨hj, a, ha, hJa, hBa⟩ := HR.out
          have hl := HL.out
          by_cases hlt : j < x.f3.length
          · have c4b0 : decide ((j : Int) < (x.f3.length : Int)) = true := decide_eq_true (by omega)
            have p228 : 0 ≤ (j : Int) := by omega
            have q228 : (j : Int) < (x.f3.length : Int) := by omega
            obtain ⟨b, d, hb, hab, hps⟩ := allK_step HH.out hlt ha
            obtain ⟨ad228, A3, c3, e228, hx0, hx1, hx2, hx3, hc3, hC3⟩ := at_T31 HC.out j p228 q228
            cases e228
            rw [Int.toNat_natCast] at hx0 hx1 hx2 hx3
            have hBw := HW.out.trans hBa
            replace hx0 := (hBw.cell (World.block_lt_of_cell? w0 _ hx0)).trans hx0
            replace hx1 := (hBw.cell (World.block_lt_of_cell? w0 _ hx1)).trans hx1
            replace hx2 := (hBw.cell (World.block_lt_of_cell? w0 _ hx2)).trans hx2
            replace hx3 := (hBw.cell (World.block_lt_of_cell? w0 _ hx3)).trans hx3
            generalize hkid : rd_T31 x.f3 (j : Int) = y at hx0 hx1 hx2 hx3 hc3 hC3 hb
            replace p228 := eq_true p228
            replace q228 := eq_true q228
            have HAL := Aside0.mk (Below.alloc (Below.refl wr.heap.size wr) (Nat.le_refl _) (.cells #[.int .i64 y.f0, .int .i64 y.f1, .int .i64 y.f2, .slice A3 y.f3.length c3] 31))
            have HKID := Aside0.mk (HIH.out y b hb A3 c3 hC3 (pre ++ a) (wr.alloc (.cells #[.int .i64 y.f0, .int .i64 y.f1, .int .i64 y.f2, .slice A3 y.f3.length c3] 31)) (hBw.trans (HAL.out.mono hBw.size)) (HJB.out _ _ _ hJa HAL.out) (by have := HN.out; rw [hps] at this; simp only [List.length_append] at this ⊢; omega))
            have HBW := Aside0.mk (hBa.trans (HAL.out.mono hBw.size))
            have HAB := Aside0.mk hab
            have HPS := Aside0.mk hps
            unfold treeV at HKID
            clear hkid hb hab hps hC3 hc3 hBw hJa hBa HR ha
            gi_wp2
            refine ⟨trivial, ?_⟩
            refine (callsIn_wide.2 (callsIn_wide.1 HKID.out)).mono ?_
            rintro e w5 (⟨rfl, hj5, hb5⟩ | ⟨rfl, q, hq, hx5⟩)
            · have HJ5 := Aside0.mk hj5
              have HB5 := Aside0.mk hb5
              clear hj5 hb5
              gi_wp2
              go_roundw
              case rel => exact ⟨j + 1, by simp, ⟨by omega, a ++ b, HAB.out, by rw [← List.append_assoc]; exact HJ5.out, HBW.out.trans HB5.out⟩⟩
              case measure => simp [intOf]; omega
            · have HQ := Aside0.mk hq
              have HX := Aside0.mk hx5
              clear hq hx5
              gi_wp2
              go_ret
              refine .inr ⟨rfl, q, ?_, HX.out⟩
              rw [HPS.out]
              exact HQ.out.trans (by rw [List.append_assoc, List.append_assoc]; exact ⟨d, by simp⟩)
          · obtain rfl : j = x.f3.length := by omega
            have c4b0 : decide ((x.f3.length : Int) < (x.f3.length : Int)) = false := decide_eq_false (by omega)
            have hps : ps = a := by
              have h1 := HH.out
              rw [List.take_length] at ha
              rw [h1] at ha
              exact Option.some.inj ha
            have HPS := Aside0.mk hps
            have HJa := Aside0.mk hJa
            have HBa := Aside0.mk hBa
            clear hps hJa hBa HR ha
            gi_wp2
            go_ret
            exact .inl ⟨rfl, by rw [HPS.out]; exact HJa.out, HBa.out⟩
      · rw [if_neg hlen] at h; cases h
def treeC (x : S31) (A : Option Addr) (c : Nat) : Array Value := #[.int .i64 x.f0, .int .i64 x.f1, .int .i64 x.f2, .slice A x.f3.length c]
theorem panes_any (x : S31) (A : Option Addr) (c : Nat) (w : World) : Calls Try.prog 60 #[treeV x A c] w fun e w' => e = .returned (.func (.func 97) #[] #[.pointer (some ⟨w.heap.size, 0, none⟩)]) ∧ w' = w.alloc (.cells (treeC x A c) 31) := by
  have hu31 := Try.underlying31
  unfold treeV treeC
  go_enter Try.func60, Try.ntmps60
  go_wp2
  go_ret
  exact ⟨rfl, rfl⟩
set_option maxRecDepth 100000 in
set_option maxHeartbeats 4000000 in
theorem panes_stops (k Bt : Nat) (x : S31) (A : Option Addr) (c : Nat) (ps : List Int) (wb w0 : World) (hwb : Below wb.heap.size wb w0) (hp : panesK k x = some ps) (hBt : w0.heap[Bt]? = some (.cells (treeC x A c) 31 (0, 0))) (hC : Kd.C k31 wb A x.f3.length x.f3) :
    SeqStopsK Fence.wide 4 Try.prog 97 #[.pointer (some ⟨Bt, 0, none⟩)] (fun p : Int => #[.int .i64 p]) (Below wb.heap.size) (fun ys => ys = ps) (fun q => q <+: ps) ps.length w0 := by
  intro l J Jx W hW hJ hJx hY h0
  have hu31 := Try.underlying31
  have HE := Aside0.mk (each_in l J Jx wb ps.length (abides_below' hJ) hY k x ps hp A c hC [] W (hwb.trans (hW.mono hwb.size)) h0 (by simp))
  have hb := blk_below hBt hW
  have z0 : W.cell? ⟨Bt, 0, none⟩ = some (.int .i64 x.f0) := (blk_cell hb 0).trans rfl
  have z1 : W.cell? ⟨Bt, 1, none⟩ = some (.int .i64 x.f1) := (blk_cell hb 1).trans rfl
  have z2 : W.cell? ⟨Bt, 2, none⟩ = some (.int .i64 x.f2) := (blk_cell hb 2).trans rfl
  have z3 : W.cell? ⟨Bt, 3, none⟩ = some (.slice A x.f3.length c) := (blk_cell hb 3).trans rfl
  clear hY hb hp
  unfold treeV at HE
  refine callsIn_of_wp Try.func97 rfl trivial ?_ rfl
  simp only [Try.ntmps97, List.size_toArray, List.length_cons, List.length_nil, Nat.reduceAdd, Nat.reduceSub, Array.replicate_succ, Array.replicate_zero, List.push_toArray, List.append_toArray, List.nil_append, List.cons_append]
  gi_wp2
  refine ⟨trivial, ?_⟩
  refine (callsIn_wide.2 (callsIn_wide.1 HE.out)).mono ?_
  rintro e W3 (⟨rfl, hj, _⟩ | ⟨rfl, q, hq, hx⟩)
  · gi_wp2
    go_end0
    exact ⟨⟨_, rfl⟩, .inl ⟨ps, rfl, hj⟩⟩
  · gi_wp2
    go_end0
    exact ⟨⟨_, rfl⟩, .inr ⟨q, hq, hx⟩⟩
end Go.Proofs.Ytplngfammfdemaa
end
