-- A copy of the text YthipdgnbpdngpaaDoorGRdE with what this claim does not reach left out (prune.py, a program of this project).
import Derived.Test.YthipdgnbpdngpaaDoorZpGRdD
import Derived.Test.YthipdgnbpdngpaaDoorZpMP1
namespace Go.Proofs.YthipdgnbpdngpaaDoor
open Go.RowKit Go.Proofs.YthipdgnbpdngpaaDoorW.PrintWords S
set_option linter.unusedVariables false
set_option linter.unusedSimpArgs false
def okP (k : Nat) (p : S52) (d : List S62) : Prop := rightP (pendAs p ⟨#[]⟩) ∧ p.f0 = 0 ∧ p.f5.size ≤ k ∧ d.length + p.f5.size ≤ 1000000000
def okT (k : Nat) (p : S52) (d : List S62) : Prop := rightP p ∧ p.f5.size + 1 ≤ k ∧ d.length + p.f5.size + 1 ≤ 1000000000
theorem take_all {pend : S52 → List S62 → S52 × List S62} {k : Nat} (hk : k ≤ 1000) (hP : PendC pend (okP k)) : TakeC (takeR pend) (okT k) := by
  intro c w base P B vP vD p d hc0 hc1 h hT h2 ⟨hr, hz, hd⟩
  have hd' : d.length ≤ 1000000000 := by omega
  unfold takeR
  by_cases h5 : p.f5.size ≠ 0
  · rw [if_pos h5]
    have e9 : (pendAs p (p.f5 ++ strOfNums [c])).f5.size = p.f5.size + 1 := app_size p.f5 c
    exact take_pend hP c w base P B vP vD p d h hd' hT h2 ⟨right_clr (p := p) hr, right_pend0 (p := p) hr h5, by omega, by omega⟩ hc0 hc1 (right_pend0 hr h5) h5 (by omega)
  rw [if_neg h5]
  have hn : p.f5.size = 0 := Decidable.not_not.1 h5
  have hnl := size_nil _ hn
  by_cases hx : c = 24 ∨ c = 26
  · rw [if_pos hx]
    exact take_cancel c w base P B vP vD p d h hd' hnl hx
  rw [if_neg hx]
  have h24 : c ≠ 24 := fun e => hx (.inl e)
  have h26 : c ≠ 26 := fun e => hx (.inr e)
  by_cases h27 : c = 27
  · rw [if_pos h27]
    exact take_esc c w base P B vP vD p d h hd' hnl h27
  rw [if_neg h27]
  by_cases h32 : c < 32 ∧ p.f0 ≠ 6 ∧ p.f0 ≠ 7
  · rw [if_pos h32]
    exact take_exec c w base P B vP vD p d h hd' hnl h32.2.1 h32.2.2 h24 h26 h27 h32.1
  rw [if_neg h32]
  unfold stateR
  by_cases s0 : p.f0 = 0
  · rw [if_pos s0]
    exact take_s0 hP c w base P B vP vD p d h hd' hnl s0 h24 h26 h27 (by omega) hT h2 (fun _ => by
      have e9 : (pendAs p (strOfNums [c])).f5.size = 1 := by show (strOfNums [c]).size = 1; rw [strOfNums_size]; rfl
      exact ⟨right_clr (p := p) hr, s0, by omega, by omega⟩) hc0 hc1
  rw [if_neg s0]
  by_cases s1 : p.f0 = 1
  · rw [if_pos s1]; exact take_s1 c w base P B vP vD p d h hd' hnl s1 h24 h26 h27 (by omega)
  rw [if_neg s1]
  by_cases s2 : p.f0 = 2
  · rw [if_pos s2]; exact take_s2 c w base P B vP vD p d h hd' hnl s2 h24 h26 h27 (by omega)
  rw [if_neg s2]
  by_cases s3 : p.f0 = 3
  · rw [if_pos s3]; exact take_s3 c w base P B vP vD p d h hd' hnl s3 h24 h26 h27 (by omega) (right_parOk hr)
  rw [if_neg s3]
  by_cases s4 : p.f0 = 4
  · rw [if_pos s4]; exact take_s4 c w base P B vP vD p d h hd' hnl s4 h24 h26 h27 (by omega)
  rw [if_neg s4]
  by_cases s5 : p.f0 = 5
  · rw [if_pos s5]; exact take_s5 c w base P B vP vD p d h hd' hnl s5 h24 h26 h27 (by omega)
  rw [if_neg s5]
  by_cases s6 : p.f0 = 6
  · rw [if_pos s6]; exact take_s6 c w base P B vP vD p d h hd' hnl s6 h24 h26 h27 (right_osc hr) hc0 hc1
  rw [if_neg s6]
  by_cases s7 : p.f0 = 7
  · rw [if_pos s7]; exact take_s7 c w base P B vP vD p d h hd' hnl s7 h24 h26 h27
  rw [if_neg s7]
  have s8 : p.f0 = 8 := by have := hr.s0; have := hr.s8; omega
  exact take_s8 c w base P B vP vD p d h hd' hnl s8 h24 h26 h27 (by omega)
theorem pend_all : ∀ k, k ≤ 1000 → PendC (pendR k) (okP k) := by
  intro k
  induction k with
  | zero =>
    intro _ w base P B vP vD p d h hT h2 ⟨hr, h0, hs, hd⟩
    have h5 := size_nil _ (Nat.le_zero.1 hs)
    exact pending_short w base P B vP vD p d h (by omega) 0 0 2 (by rw [h5]; rfl) hT h2 rfl
  | succ k ih =>
    intro hk w base P B vP vD p d h hT h2 ⟨hr, h0, hs, hd⟩
    unfold pendR
    rcases firstL_err p.f5.data.toList with ⟨he, hl⟩ | ⟨he, hl⟩ | ⟨he, hl, hm⟩
    · rw [if_pos he]
      exact pending_short w base P B vP vD p d h (by omega) _ _ _ rfl hT h2 he
    · rw [if_neg (by omega), if_pos he]
      exact pending_ok w base P B vP vD p d h (by omega) _ _ _ rfl hT h2 he
    · rw [if_neg (by omega), if_neg (by omega)]
      rw [len_size] at hm
      have hlen : (p.f5.data.toList.drop (firstL p.f5.data.toList).2.1.toNat).length ≤ p.f5.size - 1 := by rw [List.length_drop, len_size]; omega
      exact pending_bad (take_all (by omega) (ih (by omega))) w base P B vP vD p d h (by omega) _ _ _ rfl hT h2 he (by omega) (by omega) (by omega) (fun j hj => by
        have hjl : ((p.f5.data.toList.drop (firstL p.f5.data.toList).2.1.toNat).take j).length ≤ j := List.length_take_le _ _
        obtain ⟨b1, b2, b3⟩ := run_fine (pend_fine k) ((p.f5.data.toList.drop (firstL p.f5.data.toList).2.1.toNat).take j) (pendAs p ⟨#[]⟩, d ++ [pr 65533]) hr (by show 0 + _ ≤ k; omega)
        have e0 : ((pendAs p ⟨#[]⟩, d ++ [pr 65533]) : S52 × List S62).1.f5.size = 0 := rfl
        have e1 : ((pendAs p ⟨#[]⟩, d ++ [pr 65533]) : S52 × List S62).2.length = d.length + 1 := by simp
        rw [e0] at b2 b3
        rw [e1] at b3
        exact ⟨b1, by unfold runT; omega, by unfold runT; omega⟩)
theorem take_done : TakeC (takeR (pendR 4)) (okT 4) := take_all (by omega) (pend_all 4 (by omega))
end Go.Proofs.YthipdgnbpdngpaaDoor
