-- A copy of the text YtbnpcnpdeinacaaDoorMK4 with what this claim does not reach left out (prune.py, a program of this project).
import Derived.Test.YtbnpcnpdeinacaaDoorZkMK3
import Derived.Test.YtbnpcnpdeinacaaDoorZkPx12
namespace Go.Proofs.YtbnpcnpdeinacaaDoor
open Go.RowKit Go.Lib Go.Proofs.YtbnpcnpdeinacaaDoorW.PrintWords Go.Proofs.YtbnpcnpdeinacaaDoorW.PrintLast Go.Proofs.YtbnpcnpdeinacaaDoorW.PrintMore Go.Proofs.YtbnpcnpdeinacaaDoor.P
set_option linter.unusedVariables false
theorem same_loop (l : List ByteArray) (hl : l.length ≤ 1000000) : ∀ (d i k : Nat), i + d = l.length → d < k → backseatref03_Same.l0 k l l (l.length : Int) (i : Int) = some true := by
  intro d
  induction d with
  | zero =>
    intro i k hi hk
    obtain ⟨k, rfl⟩ : ∃ m, k = m + 1 := ⟨k - 1, by omega⟩
    simp only [backseatref03_Same.l0]
    rw [if_neg (by omega)]
  | succ d ih =>
    intro i k hi hk
    obtain ⟨k, rfl⟩ : ∃ m, k = m + 1 := ⟨k - 1, by omega⟩
    simp only [backseatref03_Same.l0]
    rw [if_pos (by omega), if_pos (by omega), if_pos (by omega), if_pos (by omega), if_pos trivial]
    rw [show wrap64 ((i : Int) + 1) = ((i + 1 : Nat) : Int) from by unfold wrap64; omega]
    exact ih (i + 1) k (by omega) (by omega)
theorem same_refl (l : List ByteArray) (hl : l.length ≤ 1000000) (k : Nat) (hk : l.length < k) : backseatref03_Same.f k l l = some true := by
  unfold backseatref03_Same.f
  rw [if_pos rfl]
  exact same_loop l hl l.length 0 k (by omega) hk
theorem decode_go (s : ByteArray) (f : Bool) (h : s.size ≤ 1000000) : keys_Decode.f s f = some ((decL s.data.toList.length s.data.toList f).1.map ba, ba (decL s.data.toList.length s.data.toList f).2) := by
  unfold keys_Decode.f
  rw [if_pos h, size_len]
theorem alive_dec : decL 4 [27, 91, 65, 120] false = ([[85, 112], [120]], []) := by decide +kernel
theorem alive_go : backseatlaw03_alive.f = some true := by
  unfold backseatlaw03_alive.f
  rw [decode_go _ _ (by decide)]
  rw [show ((⟨#[27, 91, 65, 120]⟩ : ByteArray)).data.toList = [27, 91, 65, 120] from rfl, show ([27, 91, 65, 120] : List UInt8).length = 4 from rfl, alive_dec, Option.bind_some]
  simp only [Lib.toList_data]
  rfl
theorem cat_data (a b : ByteArray) : (a ++ b).data.toList = a.data.toList ++ b.data.toList := by rw [ByteArray.data_append, Array.toList_append]
theorem cuts_round (x0 x1 : ByteArray) (h0 : x0.size ≤ 60) (h1 : x1.size ≤ 60) (k : Nat) (hk : 400 ≤ k) (i : Nat) (hi : i < 2) :
    backseatlaw03_KeysCuts.l0 (k + 1) x0 x1 [false, true] 2 (i : Int) = backseatlaw03_KeysCuts.l0 k x0 x1 [false, true] 2 ((i + 1 : Nat) : Int) := by
  rw [size_len] at h0 h1
  have hr0 := decL_rest false x0.data.toList.length x0.data.toList (Nat.le_refl _)
  have hc0 := decL_count false x0.data.toList.length x0.data.toList
  obtain ⟨D, hD⟩ : ∃ D, decL x0.data.toList.length x0.data.toList false = D := ⟨_, rfl⟩
  rw [hD] at hr0 hc0
  have happ := decL_app x1.data.toList (rdOf false [false, true] (i : Int)) x0.data.toList.length x0.data.toList (Nat.le_refl _)
  rw [hD] at happ
  simp only [backseatlaw03_KeysCuts.l0]
  rw [if_pos (by omega), if_pos (by omega), if_pos (by show (i : Int) < 2; omega), decode_go x0 false (by rw [size_len]; omega), hD, Option.bind_some, if_pos (by rw [ba_size, size_len]; omega)]
  have e1 : (ba D.2 ++ x1).data.toList = D.2 ++ x1.data.toList := cat_data _ _
  have e2 := cat_data x0 x1
  have hl1 : (D.2 ++ x1.data.toList).length ≤ 70 := by rw [List.length_append]; omega
  have hl2 : (x0.data.toList ++ x1.data.toList).length ≤ 120 := by rw [List.length_append]; omega
  rw [decode_go (ba D.2 ++ x1) _ (by rw [size_len, e1]; omega), e1, Option.bind_some, if_pos (by rw [size_len, size_len]; omega), decode_go (x0 ++ x1) _ (by rw [size_len, e2]; omega), e2, happ]
  have hr1 := decL_rest (rdOf false [false, true] (i : Int)) (D.2 ++ x1.data.toList).length (D.2 ++ x1.data.toList) (Nat.le_refl _)
  have hc1 := decL_count (rdOf false [false, true] (i : Int)) (D.2 ++ x1.data.toList).length (D.2 ++ x1.data.toList)
  obtain ⟨E, hE⟩ : ∃ E, decL (D.2 ++ x1.data.toList).length (D.2 ++ x1.data.toList) (rdOf false [false, true] (i : Int)) = E := ⟨_, rfl⟩
  rw [hE] at hr1 hc1 ⊢
  have hs : backseatref03_Same.f k (([] : List ByteArray) ++ D.1.map ba ++ E.1.map ba) ((D.1 ++ E.1).map ba) = some true := by
    rw [List.nil_append, ← List.map_append]
    exact same_refl _ (by rw [List.length_map, List.length_append]; omega) k (by rw [List.length_map, List.length_append]; omega)
  rw [Option.bind_some, Option.bind_some, if_pos (by rw [List.length_map]; simp; omega), Option.bind_some, if_pos (by rw [List.length_append, List.length_map, List.length_map]; simp; omega), hs, Option.bind_some, if_pos rfl, if_pos rfl, if_neg (by rw [ba_size]; omega), if_neg (by have := hr1.1; rw [ba_size]; show ¬ ((E.2.length : Int) > 10); omega)]
  rw [show wrap64 ((i : Int) + 1) = ((i + 1 : Nat) : Int) from by unfold wrap64; omega]
  cases hf : rdOf false [false, true] (i : Int) with
  | false => rw [if_neg (by decide)]
  | true =>
    rw [if_pos rfl, if_pos (by rw [Lib.toList_data, ba_data]; exact hr1.2 hf)]
theorem cuts_end (k : Nat) (x0 x1 : ByteArray) : backseatlaw03_KeysCuts.l0 (k + 1) x0 x1 [false, true] 2 ((1 + 1 : Nat) : Int) = some true := by
  simp only [backseatlaw03_KeysCuts.l0]
  rw [if_neg (by omega), alive_go, Option.bind_some]
theorem KeysCuts : backseatlaw03_KeysCuts.Pure := by
  intro a0 a1 h0 h1
  refine ⟨500, ?_⟩
  have m0 : 0 ≤ mn (a0.size : Int) 60 ∧ mn (a0.size : Int) 60 ≤ (a0.size : Int) ∧ mn (a0.size : Int) 60 ≤ 60 := by unfold mn; omega
  have m1 : 0 ≤ mn (a1.size : Int) 60 ∧ mn (a1.size : Int) 60 ≤ (a1.size : Int) ∧ mn (a1.size : Int) 60 ≤ 60 := by unfold mn; omega
  unfold backseatlaw03_KeysCuts.f
  rw [if_pos m0.1, if_pos m0.2.1, if_pos m1.1, if_pos m1.2.1, Option.bind_some]
  have s0 : (a0.extract 0 (mn (a0.size : Int) 60).toNat).size ≤ 60 := by rw [size_len, toList_take, List.length_take]; omega
  have s1 : (a1.extract 0 (mn (a1.size : Int) 60).toNat).size ≤ 60 := by rw [size_len, toList_take, List.length_take]; omega
  have r0 := cuts_round _ _ s0 s1 499 (by omega) 0 (by omega)
  have r1 := cuts_round _ _ s0 s1 498 (by omega) 1 (by omega)
  show backseatlaw03_KeysCuts.l0 (499 + 1) _ _ [false, true] 2 ((0 : Nat) : Int) = _
  rw [r0, r1]
  exact cuts_end 497 _ _
end Go.Proofs.YtbnpcnpdeinacaaDoor
