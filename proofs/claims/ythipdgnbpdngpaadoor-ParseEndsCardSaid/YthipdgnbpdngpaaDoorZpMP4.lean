-- A copy of the text YthipdgnbpdngpaaDoorMP4 with what this claim does not reach left out (prune.py, a program of this project).
import Derived.Test.YthipdgnbpdngpaaDoorZpSx4
import Derived.Test.YthipdgnbpdngpaaDoorZpMP2
namespace Go.Proofs.YthipdgnbpdngpaaDoor
open Go.RowKit Go.Proofs.YthipdgnbpdngpaaDoorW.PrintWords S
set_option linter.unusedVariables false
set_option linter.unusedSimpArgs false
theorem lo_ge (b : Nat) (hb : b < 256) (h : ¬ b < 128) (h1 : ¬ szN b = 1) : 128 ≤ loN b := by
  rcases lead_cases b hb with ⟨h0, _⟩ | ⟨_, h0⟩ | ⟨_, _, h0⟩ | ⟨_, h0⟩ | ⟨_, h0⟩ | ⟨_, h0⟩ | ⟨_, h0⟩ | ⟨_, _, h0⟩ | ⟨_, h0⟩
  · omega
  · exact absurd (by unfold szN; rw [h0]) h1
  all_goals
    unfold loN
    rw [h0]
    decide
theorem g_app (l : List UInt8) (j : Nat) (h : j < l.length) : g (l ++ [24]) j = g l j := by
  unfold g
  rw [List.getD_eq_getElem?_getD, List.getD_eq_getElem?_getD, List.getElem?_append_left h]
theorem g_end (l : List UInt8) : g (l ++ [24]) l.length = 24 := by
  unfold g
  rw [List.getD_eq_getElem?_getD, List.getElem?_append_right (Nat.le_refl _), Nat.sub_self]
  rfl
/-- A byte that goes on with nothing: what is pending is spoilt, and it alone is left. -/
theorem first_cut (l : List UInt8) (hl : l.length ≠ 0) (h : (firstL l).2.2 = 2) : firstL (l ++ [24]) = (0, (l.length : Int), 4) := by
  have hla : (l ++ [24]).length = l.length + 1 := by rw [List.length_append]; rfl
  have e0 := g_app l 0 (by omega)
  have hb := g_lt l 0
  have he := g_end l
  unfold firstL at h ⊢
  rw [if_neg hl] at h
  rw [hla, if_neg (by omega), e0]
  by_cases c1 : g l 0 < 128
  · rw [if_pos c1] at h; exact absurd (show (0 : Int) = 2 from h) (by decide)
  rw [if_neg c1] at h ⊢
  by_cases c2 : szN (g l 0) = 1
  · rw [if_pos c2] at h; exact absurd h (by decide)
  rw [if_neg c2] at h ⊢
  have hlo := lo_ge _ hb c1 c2
  rw [if_neg (show ¬ l.length + 1 = 1 by omega)]
  by_cases c3 : l.length = 1
  · rw [c3] at he
    rw [he, if_pos (.inl (by omega)), c3]
    rfl
  rw [if_neg c3] at h
  rw [g_app l 1 (by omega)]
  by_cases c4 : g l 1 < loN (g l 0) ∨ hiN (g l 0) < g l 1
  · rw [if_pos c4] at h; exact absurd h (by decide)
  rw [if_neg c4] at h ⊢
  by_cases c5 : szN (g l 0) = 2
  · rw [if_pos c5] at h; exact absurd (show (0 : Int) = 2 from h) (by decide)
  rw [if_neg c5] at h ⊢
  rw [if_neg (show ¬ l.length + 1 = 2 by omega)]
  by_cases c6 : l.length = 2
  · rw [c6] at he
    rw [he, if_pos (.inl (by omega)), c6]
    rfl
  rw [if_neg c6] at h
  rw [g_app l 2 (by omega)]
  by_cases c7 : g l 2 < 128 ∨ 191 < g l 2
  · rw [if_pos c7] at h; exact absurd h (by decide)
  rw [if_neg c7] at h ⊢
  by_cases c8 : szN (g l 0) = 3
  · rw [if_pos c8] at h; exact absurd (show (0 : Int) = 2 from h) (by decide)
  rw [if_neg c8] at h ⊢
  rw [if_neg (show ¬ l.length + 1 = 3 by omega)]
  by_cases c9 : l.length = 3
  · rw [c9] at he
    rw [he, if_pos (.inl (by omega)), c9]
    rfl
  rw [if_neg c9] at h
  by_cases c10 : g l 3 < 128 ∨ 191 < g l 3
  · rw [if_pos c10] at h; exact absurd h (by decide)
  · rw [if_neg c10] at h; exact absurd (show (0 : Int) = 2 from h) (by decide)
theorem to_24 (d : List S62) : takeR (pendR 4) (toF 0) d 24 = (toF 0, d ++ [ex 24]) := by rfl
theorem to_65 (d : List S62) : takeR (pendR 4) (toF 0) d 65 = (toF 0, d ++ [pr 65]) := by rfl
theorem clr_to {p : S52} (h : rightP p) (h0 : p.f0 = 0) : pendAs p ⟨#[]⟩ = toF 0 := by
  have c := h.cs1 (by omega) (by omega)
  have i := h.it1 (by omega) (by omega)
  have o := h.os1 (by omega)
  obtain ⟨f0, f1, f2, f3, f4, f5⟩ := p
  simp only at h0 c i o
  unfold pendAs toF
  rw [h0, c.1, c.2, i, o]
/-- The first cancel. -/
theorem first_24 {p : S52} (h : rightP p) : ∃ d, (d = [] ∨ d = [ex 24] ∨ d = [pr 65533, ex 24]) ∧ takeR (pendR 4) p [] 24 = (toF 0, d) := by
  by_cases h5 : p.f5.size = 0
  · unfold takeR
    rw [if_neg (fun hh => hh h5), if_pos (.inl rfl)]
    by_cases h67 : p.f0 = 6 ∨ p.f0 = 7
    · rw [if_pos h67]; exact ⟨[], .inl rfl, rfl⟩
    · rw [if_neg h67]; exact ⟨[ex 24], .inr (.inl rfl), rfl⟩
  · have h0 := right_pend0 h h5
    have h3 := right_pend h
    refine ⟨_, .inr (.inr rfl), ?_⟩
    unfold takeR
    rw [if_pos h5]
    have hl : p.f5.data.toList.length ≠ 0 := by rw [len_size]; exact h5
    have hd : (pendAs p (p.f5 ++ strOfNums [24])).f5.data.toList = p.f5.data.toList ++ [24] := by
      show (p.f5 ++ strOfNums [24]).data.toList = _
      rw [ByteArray.data_append, Array.toList_append, strOfNums_data]
      rfl
    have hf := first_cut _ hl (h.pn0 h0)
    have hc : pendAs (pendAs p (p.f5 ++ strOfNums [24])) ⟨#[]⟩ = toF 0 := clr_to (p := p) h h0
    rw [show (4 : Nat) = 3 + 1 from rfl]
    unfold pendR
    rw [hd, hf, hc]
    rw [if_neg (show ¬ (4 : Int) = 2 by decide), if_neg (show ¬ (4 : Int) = 0 by decide)]
    simp only [Int.toNat_natCast]
    rw [List.drop_left]
    rfl
theorem ends_run {p : S52} (h : rightP p) : ∃ d, (d = [] ∨ d = [ex 24] ∨ d = [pr 65533, ex 24]) ∧ feedR p ⟨#[24, 24, 65]⟩ = (toF 0, d ++ [ex 24] ++ [pr 65]) := by
  obtain ⟨d, hd, ht⟩ := first_24 h
  refine ⟨d, hd, ?_⟩
  have e : feedR p ⟨#[24, 24, 65]⟩ = takeR (pendR 4) (takeR (pendR 4) (takeR (pendR 4) p [] 24).1 (takeR (pendR 4) p [] 24).2 24).1 (takeR (pendR 4) (takeR (pendR 4) p [] 24).1 (takeR (pendR 4) p [] 24).2 24).2 65 := rfl
  rw [e, ht, to_24, to_65]
theorem ends_j0 (d : List S62) (hd : d = [] ∨ d = [ex 24] ∨ d = [pr 65533, ex 24]) : backseatlaw05_ParseEnds.j0 60 (d ++ [ex 24] ++ [pr 65]) false = some true := by
  rcases hd with rfl | rfl | rfl
  · kernel_rfl
  · kernel_rfl
  · kernel_rfl
theorem ParseEnds (p : S52) (a1 : ByteArray) : backseatlaw05_ParseEnds.f 60 p.f0 p.f1 p.f2 p.f3 p.f4 p.f5 a1 = some true := by
  obtain ⟨q, hq⟩ := few_go p
  have h1 := mn_le a1.size 200 (by omega)
  have c1 := cut_size a1 200 (by omega)
  unfold backseatlaw05_ParseEnds.f
  rw [hq]
  simp only [Option.bind_some]
  rw [if_pos h1.1, if_pos h1.2.1]
  generalize a1.extract 0 (mn (a1.size : Int) 200).toNat = s at c1 ⊢
  have c1' : s.size ≤ 200 := c1
  rcases feed_or q s (by omega) with ⟨hr, hf⟩ | hf
  · rw [hf]
    simp only [Option.bind_some, feedT, if_true]
    obtain ⟨r1, l1⟩ := feed_right' hr s
    obtain ⟨d, hd, he⟩ := ends_run r1
    rw [feed_ok (feedR q s).1 _ (by decide) r1, he]
    simp only [Option.bind_some, feedT, if_true]
    have hlk : backseatref05_LikeParser.f 60 (toF 0).f0 (toF 0).f1 (toF 0).f2 (toF 0).f3 (toF 0).f4 (toF 0).f5 0 0 ([] : List Int) 0 (⟨#[]⟩ : ByteArray) (⟨#[]⟩ : ByteArray) = some true := likeP_refl (toF 0) 60 (by decide) (by decide)
    rw [hlk]
    simp only [Option.bind_some, if_true]
    have hln : 2 ≤ (d ++ [ex 24] ++ [pr 65]).length ∧ (d ++ [ex 24] ++ [pr 65]).length ≤ 4 := by rcases hd with rfl | rfl | rfl <;> decide
    rw [if_neg (by omega), if_neg (by omega), alive_go5]
    simp only [Option.bind_some, Bool.not_true]
    exact ends_j0 d hd
  · rw [hf]
    simp only [Option.bind_some, feedT]
    rw [if_neg (by decide), alive_go5]
    have hlk : backseatref05_LikeParser.f 60 (toF 0).f0 (toF 0).f1 (toF 0).f2 (toF 0).f3 (toF 0).f4 (toF 0).f5 0 0 ([] : List Int) 0 (⟨#[]⟩ : ByteArray) (⟨#[]⟩ : ByteArray) = some true := likeP_refl (toF 0) 60 (by decide) (by decide)
    simp only [Option.bind_some, if_true]
    rw [hlk]
    rfl
end Go.Proofs.YthipdgnbpdngpaaDoor
