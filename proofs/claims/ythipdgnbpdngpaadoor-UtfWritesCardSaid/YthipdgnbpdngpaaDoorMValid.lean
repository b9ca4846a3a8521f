/- What is letters alone: both programs tell it alike; the law UtfReads. -/
import Derived.Test.YthipdgnbpdngpaaDoorMRef
import Derived.Test.YthipdgnbpdngpaaDoorPx4
namespace Go.Proofs.YthipdgnbpdngpaaDoor
open Go.RowKit Go.Lib Go.Proofs.YthipdgnbpdngpaaDoorW.PrintWords Go.Proofs.YthipdgnbpdngpaaDoorW.PrintLast Go.Proofs.YthipdgnbpdngpaaDoor.P
theorem dec_lead (l : List UInt8) (hl : l.length ≠ 0) (h128 : 128 ≤ g l 0) (h1 : szN (g l 0) ≠ 1) :
    decodeL l = slowN l.length (g l 0) (g l 1) (g l 2) (g l 3) (szN (g l 0)) (loN (g l 0)) (hiN (g l 0)) := by
  rw [decodeL_N]
  show decodeN l.length (g l 0) (g l 1) (g l 2) (g l 3) = _
  have hg := g_lt l 0
  have b1 := g_lt l 1
  have b2 := g_lt l 2
  have b3 := g_lt l 3
  unfold szN loN hiN at *
  rcases lead_cases (g l 0) hg with ⟨hb, hf⟩ | ⟨hb, hf⟩ | ⟨hb, hb', hf⟩ | ⟨hb, hf⟩ | ⟨hb, hf⟩ | ⟨hb, hf⟩ | ⟨hb, hf⟩ | ⟨hb, hb', hf⟩ | ⟨hb, hf⟩ <;> rw [hf] at h1 ⊢
  · omega
  · omega
  · exact (slow_C2 _ _ _ _ _ (by omega) b1 b2 b3 ⟨hb, hb'⟩).symm
  · exact (slow_E0 _ _ _ _ _ (by omega) b1 b2 b3 hb).symm
  · exact (slow_E1 _ _ _ _ _ (by omega) b1 b2 b3 hb).symm
  · exact (slow_ED _ _ _ _ _ (by omega) b1 b2 b3 hb).symm
  · exact (slow_F0 _ _ _ _ _ (by omega) b1 b2 b3 hb).symm
  · exact (slow_F1 _ _ _ _ _ (by omega) b1 b2 b3 ⟨hb, hb'⟩).symm
  · exact (slow_F4 _ _ _ _ _ (by omega) b1 b2 b3 hb).symm
theorem sz_cases (b : Nat) (hb : b < 256) (h128 : 128 ≤ b) (h1 : szN b ≠ 1) : szN b = 2 ∨ szN b = 3 ∨ szN b = 4 := by
  unfold szN at h1 ⊢
  rcases lead_cases _ hb with ⟨hb, hf⟩ | ⟨hb, hf⟩ | ⟨hb, hb', hf⟩ | ⟨hb, hf⟩ | ⟨hb, hf⟩ | ⟨hb, hf⟩ | ⟨hb, hf⟩ | ⟨hb, hb', hf⟩ | ⟨hb, hf⟩ <;> rw [hf] at h1 ⊢ <;> omega
/-- First by the decoder. -/
theorem first_dec (l : List UInt8) (hl : l.length ≠ 0) :
    (decodeL l = (65533, 1) ∧ (firstL l).1 = 0 ∧ ((firstL l).2.2 = 2 ∧ (firstL l).2.1 = 0 ∧ l.length ≤ 3 ∨ (firstL l).2.2 = 4 ∧ 1 ≤ (firstL l).2.1 ∧ (firstL l).2.1 ≤ 3 ∧ (firstL l).2.1 ≤ l.length)) ∨
    (decodeL l ≠ (65533, 1) ∧ firstL l = (((decodeL l).1 : Int), ((decodeL l).2 : Int), 0) ∧ 1 ≤ (decodeL l).2 ∧ (decodeL l).2 ≤ 4 ∧ (decodeL l).2 ≤ l.length) := by
  have hg := g_lt l 0
  by_cases h128 : g l 0 < 128
  · right
    have hd : decodeL l = (g l 0, 1) := by
      rw [decodeL_N]
      show decodeN l.length (g l 0) (g l 1) (g l 2) (g l 3) = _
      unfold decodeN; rw [if_pos h128]
    have hF : firstL l = ((g l 0 : Int), 1, 0) := by unfold firstL; rw [if_neg hl, if_pos h128]
    rw [hd, hF]
    exact ⟨fun h => by have := congrArg Prod.fst h; simp only at this; omega, rfl, Nat.le_refl _, by omega, by simp only; omega⟩
  by_cases h1 : szN (g l 0) = 1
  · left
    have hF : firstL l = (0, 1, 4) := by unfold firstL; rw [if_neg hl, if_neg h128, if_pos h1]
    have hd : decodeL l = (65533, 1) := by
      rw [decodeL_N]
      show decodeN l.length (g l 0) (g l 1) (g l 2) (g l 3) = _
      refine decodeN_bad _ _ _ _ _ ?_
      unfold szN at h1
      rcases lead_cases _ hg with ⟨hb, hf⟩ | ⟨hb, hf⟩ | ⟨hb, hb', hf⟩ | ⟨hb, hf⟩ | ⟨hb, hf⟩ | ⟨hb, hf⟩ | ⟨hb, hf⟩ | ⟨hb, hb', hf⟩ | ⟨hb, hf⟩ <;> rw [hf] at h1 <;> omega
    rw [hF]
    exact ⟨hd, rfl, .inr ⟨rfl, by simp only; omega, by simp only; omega, by simp only; omega⟩⟩
  have hsz := sz_cases _ hg (by omega) h1
  rw [dec_lead l hl (by omega) h1, firstL_lead l _ hsz hl (by omega) rfl]
  have hlh := lo_hi _ hg hsz (by omega)
  rcases slow_cases l.length (g l 0) (g l 1) (g l 2) (g l 3) _ (loN (g l 0)) (hiN (g l 0)) hsz with ⟨hb, hs⟩ | ⟨hb, v, hs, hv⟩
  · left
    rw [hs]
    refine ⟨rfl, ?_⟩
    unfold leadZ
    by_cases n1 : l.length = 1
    · rw [if_pos n1]; exact ⟨rfl, .inl ⟨rfl, rfl, by omega⟩⟩
    by_cases c1 : g l 1 < loN (g l 0) ∨ hiN (g l 0) < g l 1
    · rw [if_neg n1, if_pos c1]; exact ⟨rfl, .inr ⟨rfl, by simp only; omega, by simp only; omega, by simp only; omega⟩⟩
    have s2 : szN (g l 0) ≠ 2 := by omega
    by_cases n2 : l.length = 2
    · rw [if_neg n1, if_neg c1, if_neg s2, if_pos n2]; exact ⟨rfl, .inl ⟨rfl, rfl, by omega⟩⟩
    by_cases c2 : g l 2 < 128 ∨ 191 < g l 2
    · rw [if_neg n1, if_neg c1, if_neg s2, if_neg n2, if_pos c2]; exact ⟨rfl, .inr ⟨rfl, by simp only; omega, by simp only; omega, by simp only; omega⟩⟩
    have s3 : szN (g l 0) ≠ 3 := by omega
    by_cases n3 : l.length = 3
    · rw [if_neg n1, if_neg c1, if_neg s2, if_neg n2, if_neg c2, if_neg s3, if_pos n3]; exact ⟨rfl, .inl ⟨rfl, rfl, by omega⟩⟩
    have c3 : g l 3 < 128 ∨ 191 < g l 3 := by omega
    rw [if_neg n1, if_neg c1, if_neg s2, if_neg n2, if_neg c2, if_neg s3, if_neg n3, if_pos c3]; exact ⟨rfl, .inr ⟨rfl, by simp only; omega, by simp only; omega, by simp only; omega⟩⟩
  · right
    rw [hs]
    refine ⟨fun h => by have := congrArg Prod.snd h; simp only at this; omega, ?_, by simp only; omega, by simp only; omega, by simp only; omega⟩
    unfold leadZ
    rw [if_neg (by omega), if_neg (by omega)]
    rcases hsz with s2 | s2 | s2
    · rw [if_pos s2, hv, if_pos s2, s2]; rfl
    · rw [if_neg (by omega), if_neg (by omega), if_neg (by omega), if_pos s2, hv, if_neg (by omega), if_pos s2, s2]; rfl
    · rw [if_neg (by omega), if_neg (by omega), if_neg (by omega), if_neg (by omega), if_neg (by omega), if_neg (by omega), hv, if_neg (by omega), if_neg (by omega), s2]; rfl

theorem rv_step (s : ByteArray) (k : Nat) : backseatref01_Valid.l0 (k + 1) s = if (s.size : Int) > 0 then ((backseatref01_First.f k s).bind fun b => (if b.2.2 = 0 then (if 0 ≤ b.2.1 then (if b.2.1 ≤ (s.size : Int) then (backseatref01_Valid.l0 k (s.extract (b.2.1 : Int).toNat s.size)) else (none)) else (none)) else (some false))) else (some true) := by simp only [backseatref01_Valid.l0]
theorem ref_valid : ∀ (n : Nat) (s : ByteArray) (k : Nat), s.size ≤ n → n + 25 ≤ k → backseatref01_Valid.l0 k s = some (validD s.data.toList)
  | n, s, k, hs, hk => by
    obtain ⟨k, rfl⟩ : ∃ m, k = m + 1 := ⟨k - 1, by omega⟩
    have hl := len_size s
    rw [rv_step]
    by_cases hz : s.size = 0
    · rw [if_neg (by omega)]
      have : s.data.toList = [] := List.eq_nil_of_length_eq_zero (by omega)
      rw [this]; rfl
    · rw [if_pos (by omega), ref_go s k (by omega), Option.bind_some]
      have hne : s.data.toList ≠ [] := fun h => by rw [h] at hl; simp at hl; omega
      rcases first_dec s.data.toList (by omega) with ⟨hd, h1, h2⟩ | ⟨hd, hF, hw1, hw2, hw3⟩
      · rw [if_neg (by omega), validD_step _ hne, if_pos ⟨congrArg Prod.fst hd, congrArg Prod.snd hd⟩]
      · rw [hF]
        simp only
        rw [if_pos trivial, if_pos (by omega), if_pos (by omega)]
        have hx : (s.extract ((decodeL s.data.toList).2 : Int).toNat s.size).data.toList = s.data.toList.drop (decodeL s.data.toList).2 := by
          rw [toList_extract, show (((decodeL s.data.toList).2 : Int)).toNat = (decodeL s.data.toList).2 by omega, List.take_of_length_le (by rw [List.length_drop]; omega)]
        have hsz : (s.extract ((decodeL s.data.toList).2 : Int).toNat s.size).size = s.size - (decodeL s.data.toList).2 := by
          rw [← len_size, hx, List.length_drop, hl]
        match n, hs, hk with
        | 0, hs, _ => omega
        | n + 1, hs, hk =>
          rw [ref_valid n _ k (by omega) (by omega), hx, validD_step _ hne, if_neg (fun h => hd (Prod.ext h.1 h.2))]
theorem alive_go (k : Nat) (hk : 6 ≤ k) : backseatlaw01_alive.f k = some true := by
  unfold backseatlaw01_alive.f
  rw [first_go _ k hk]
  have e : firstL (⟨#[195, 164, 120]⟩ : ByteArray).data.toList = (228, 2, 0) := by decide
  rw [e]
  simp only [Option.bind_some, if_true]
  unfold utf_Valid.f utf8_ValidString.f
  rw [if_pos (by decide)]
  have e2 : validD (⟨#[195, 164]⟩ : ByteArray).data.toList = true := by decide
  rw [e2]
  rfl
theorem UtfReads : backseatlaw01_UtfReads.Pure := by
  intro a0 hs
  refine ⟨400, ?_⟩
  unfold backseatlaw01_UtfReads.f
  have hm : 0 ≤ mn (a0.size : Int) 200 ∧ mn (a0.size : Int) 200 ≤ a0.size ∧ mn (a0.size : Int) 200 ≤ 200 := by unfold mn; omega
  rw [if_pos hm.1, if_pos hm.2.1]
  have hx : (a0.extract 0 (mn (a0.size : Int) 200).toNat).size ≤ 200 := by rw [size_extract _ _ (by omega)]; omega
  generalize a0.extract 0 (mn (a0.size : Int) 200).toNat = s at hx ⊢
  rw [first_go s 400 (by omega), ref_go s 400 (by omega), alive_go 400 (by omega)]
  simp only [Option.bind_some, if_true]
  unfold utf_Valid.f utf8_ValidString.f backseatref01_Valid.f
  rw [if_pos (by omega), ref_valid 200 s 400 hx (by omega)]
  simp
end Go.Proofs.YthipdgnbpdngpaaDoor
