-- A copy of the text YtbnpcnpdeinacaaDoorMK8 with what this claim does not reach left out (prune.py, a program of this project).
import Derived.Test.YtbnpcnpdeinacaaDoorZkMK7
import Derived.Test.YtbnpcnpdeinacaaDoorZkPxT
namespace Go.Proofs.YtbnpcnpdeinacaaDoor
open Go.RowKit Go.Lib Go.Proofs.YtbnpcnpdeinacaaDoorW.PrintWords Go.Proofs.YtbnpcnpdeinacaaDoorW.PrintLast Go.Proofs.YtbnpcnpdeinacaaDoorW.PrintMore Go.Proofs.YtbnpcnpdeinacaaDoor.P
set_option linter.unusedVariables false
theorem st_lawKeysTake_j0 (k : Nat) (x2 : ByteArray) (x9 : ByteArray) (x10 : Int) (x51 : Bool) : backseatlaw03_KeysTake.j0 (k + 1) x2 x9 x10 x51 = if x51 = true then (some false) else ((backseatref03_Bytes.f k x2).bind fun t240 => (if t240.toList = ([] : List UInt8) then (if x10 = 1 then (some (x9.toList == ([] : List UInt8))) else (some false)) else (if x10 = 0 then (some (x9.toList == t240.toList)) else (some false)))) := by simp only [backseatlaw03_KeysTake.j0]
theorem takeL_zero (s : List UInt8) (f : Bool) (h : (takeL s f).1 = []) : (takeL s f).2 = 0 := by
  cases hh : hitL s with
  | some p =>
    rw [takeL_some s f hh] at h
    exact absurd h (NL_ok p (List.mem_of_find?_eq_some hh)).1
  | none =>
    rw [takeL_none s f hh] at h ⊢
    split at h
    · rename_i c; rw [if_pos c]
    rename_i c0
    rw [if_neg c0]
    split at h
    · rename_i c
      rw [if_pos c]
      unfold escapedL at h ⊢
      split at h
      · cases h
      rename_i c1
      rw [if_neg c1]
      split at h
      · rename_i c2; rw [if_pos c2]
      rename_i c2
      rw [if_neg c2]
      split at h
      · cases h
      rename_i c3
      rw [if_neg c3]
      split at h
      · rename_i c4; rw [if_pos c4]
      · cases h
    rename_i c1
    rw [if_neg c1]
    split at h
    · rename_i c; exact absurd h c
    rename_i c2
    rw [if_neg c2]
    split at h
    · rename_i c
      rw [if_pos c]
      split at h
      · cases h
      · rename_i c4; rw [if_neg c4]
    · cases h
theorem rdec_loop (final : Bool) : ∀ (d : Nat) (s : List UInt8) (acc : List ByteArray) (k : Nat), s.length ≤ d → s.length ≤ 1000000 → acc.length + d ≤ 2000000 → d + 400 ≤ k →
    backseatref03_Decode.l0 k final acc (ba s) = some (acc ++ (decL d s final).1.map ba, ba (decL d s final).2) := by
  intro d
  induction d with
  | zero =>
    intro s acc k h h2 ha hk
    obtain ⟨k, rfl⟩ : ∃ m, k = m + 1 := ⟨k - 1, by omega⟩
    obtain rfl : s = [] := List.eq_nil_of_length_eq_zero (by omega)
    rw [st_Decode_l0, if_neg (by rw [ba_size]; simp)]
    show some (acc, ba []) = some (acc ++ ([] : List (List UInt8)).map ba, ba [])
    simp
  | succ d ih =>
    intro s acc k h h2 ha hk
    obtain ⟨k, rfl⟩ : ∃ m, k = m + 1 := ⟨k - 1, by omega⟩
    by_cases hs : s = []
    · subst hs
      rw [st_Decode_l0, if_neg (by rw [ba_size]; simp)]
      show some (acc, ba []) = some (acc ++ ([] : List (List UInt8)).map ba, ba [])
      simp
    have hl : 1 ≤ s.length := by
      cases s with
      | nil => exact absurd rfl hs
      | cons a l => simp
    rw [st_Decode_l0, if_pos (by rw [ba_size]; omega), rtake_go (ba s) final k (by omega) hl (by rw [ba_size]; exact h2), Option.bind_some, ba_data]
    by_cases ht : (takeL s final).1 = []
    · have e : decL (d + 1) s final = ([], s) := by
        show (if s = [] then _ else _) = _
        rw [if_neg hs, if_pos ht]
      have hz := takeL_zero s final ht
      rw [if_pos (show (pairF (takeL s final)).2 = 0 by unfold pairF; rw [hz]; rfl), e]
      simp
    · obtain ⟨n1, n2⟩ := takeL_ok s final hs ht
      have e : decL (d + 1) s final = ((takeL s final).1 :: (decL d (s.drop (takeL s final).2) final).1, (decL d (s.drop (takeL s final).2) final).2) := by
        show (if s = [] then _ else _) = _
        rw [if_neg hs, if_neg ht]
      have hp : (pairF (takeL s final)).2 = ((takeL s final).2 : Int) := rfl
      rw [hp, if_neg (by omega), if_pos (by omega), if_pos (by omega), if_pos (by rw [ba_size]; omega), Int.toNat_natCast]
      rw [show (ba s).extract (takeL s final).2 (ba s).size = ba (s.drop (takeL s final).2) from ba_eq _ _ (toList_drop (ba s) _)]
      rw [ih (s.drop (takeL s final).2) _ k (by rw [List.length_drop]; omega) (by rw [List.length_drop]; omega) (by rw [List.length_append, List.length_singleton]; omega) (by omega), e]
      congr 1
      refine Prod.ext ?_ rfl
      show acc ++ [ba (takeL s final).1] ++ _ = _
      simp
theorem rdecode_go (s : ByteArray) (final : Bool) (h : s.size ≤ 1000) : backseatref03_Decode.f 2000 s final = some ((decL s.data.toList.length s.data.toList final).1.map ba, ba (decL s.data.toList.length s.data.toList final).2) := by
  unfold backseatref03_Decode.f
  have h9 : s.data.toList.length ≤ 1000 := by rw [← size_len]; exact h
  have := rdec_loop final s.data.toList.length s.data.toList [] 2000 (Nat.le_refl _) (by omega) (by simp; omega) (by omega)
  rw [← ba_eq s _ rfl] at this
  rw [this, List.nil_append]
theorem keyL_pos {x v : List UInt8} (h : keyL x = some v) : v ≠ [] := by
  obtain ⟨p, hp, rfl⟩ := Option.map_eq_some_iff.1 h
  intro e
  have := (NL_ok p (List.mem_of_find?_eq_some hp)).2
  rw [e] at this
  simp at this
theorem rbytes_go (s : ByteArray) (k : Nat) (hk : 300 ≤ k) (h : s.size ≤ 1000) : backseatref03_Bytes.f k s = some (ba (bytesL s.data.toList).1) := by
  obtain ⟨k, rfl⟩ : ∃ m, k = m + 1 := ⟨k - 1, by omega⟩
  unfold backseatref03_Bytes.f
  rw [rNamed_go s _ (by omega), Option.bind_some, Lib.toList_data, ba_data]
  cases hk2 : keyL s.data.toList with
  | some v =>
    have e1 : valL s.data.toList = v := by unfold valL; rw [hk2]; rfl
    have e2 : bytesL s.data.toList = (v, 0) := by unfold bytesL; rw [hk2]
    rw [e1, e2, if_neg (keyL_pos hk2), Option.bind_some]
  | none =>
    have e1 : valL s.data.toList = [] := by unfold valL; rw [hk2]; rfl
    have e2 := bytesL_none _ hk2
    rw [e1, e2, if_pos rfl, Lib.toList_data]
    clear e1 e2
    by_cases c1 : s.data.toList = [69, 115, 99]
    · rw [if_pos c1, if_pos c1]; rfl
    rw [if_neg c1, if_neg c1]
    have hj : ∀ b : Bool, (b = true → False) → backseatref03_Bytes.j0 (k + 1) s b = some (ba (if Lib.hasPrefix s.data.toList [77, 45] = true ∧ letterL (s.data.toList.drop 2) ≠ [] ∧ letterL (s.data.toList.drop 2) = s.data.toList.drop 2 ∧ letterL (s.data.toList.drop 2) ≠ [91] ∧ letterL (s.data.toList.drop 2) ≠ [79] then ((27 :: letterL (s.data.toList.drop 2), 0) : List UInt8 × Int) else ([], 1)).1) := by
      intro b hb
      rw [st_Bytes_j0, if_neg (fun h => hb h), rprefix_go, Option.bind_some]
      show (if Lib.hasPrefix s.data.toList [77, 45] = true then _ else _) = _
      by_cases hp : Lib.hasPrefix s.data.toList [77, 45] = true
      · have h2 : 2 ≤ s.data.toList.length := (List.isPrefixOf_iff_prefix.1 hp).length_le
        have hsp : s.data.toList = [77, 45] ++ s.data.toList.drop 2 := by
          obtain ⟨u, hu⟩ := List.isPrefixOf_iff_prefix.1 hp
          rw [← hu]; rfl
        rw [if_pos hp]
        by_cases c4 : s.data.toList.drop 2 = []
        · have hl : letterL (s.data.toList.drop 2) = [] := by rw [c4]; rfl
          have : s.size = 2 := by
            have := congrArg List.length c4
            rw [List.length_drop, List.length_nil] at this
            rw [size_len]; omega
          rw [if_neg (by omega), if_neg (fun hh => hh.2.1 hl)]; rfl
        · have h3 : 2 < s.size := by
            have := List.length_pos_iff.2 c4
            rw [List.length_drop] at this
            rw [size_len]; omega
          rw [if_pos (by omega), if_pos (by omega), rletter_go _ _ (by omega), Option.bind_some, Lib.toList_data, ba_data, Lib.toList_data, toList_drop, Lib.toList_data]
          by_cases c5 : letterL (s.data.toList.drop 2) = s.data.toList.drop 2
          · rw [if_pos c5]
            by_cases c6 : s.data.toList.drop 2 = [91]
            · rw [if_pos (by rw [hsp, c6]; rfl), if_neg (fun hh => hh.2.2.2.1 (c5.trans c6))]; rfl
            · rw [if_neg (fun hh => c6 (by rw [hh]; rfl))]
              by_cases c7 : s.data.toList.drop 2 = [79]
              · rw [if_pos (by rw [hsp, c7]; rfl), if_neg (fun hh => hh.2.2.2.2 (c5.trans c7))]; rfl
              · rw [if_neg (fun hh => c7 (by rw [hh]; rfl)), if_pos (by rw [size_len, toList_drop, List.length_drop, ← size_len]; omega), if_pos ⟨hp, by rw [c5]; exact c4, c5, by rw [c5]; exact c6, by rw [c5]; exact c7⟩]
                congr 1
                exact ba_eq _ _ (by rw [cat_data, toList_drop, c5]; rfl)
          · rw [if_neg c5, if_neg (fun hh => c5 hh.2.2.1)]; rfl
      · rw [if_neg hp, if_neg (fun hh => hp hh.1)]; rfl
    by_cases c2 : s.data.toList = []
    · rw [if_neg (by rw [size_len, c2]; simp), if_neg (fun hh => hh.1 c2)]
      exact hj false (by decide)
    · have hpos := List.length_pos_iff.2 c2
      rw [if_pos (by rw [size_len]; omega), rletter_go s _ (by omega), Option.bind_some, Lib.toList_data, ba_data]
      by_cases c3 : letterL s.data.toList = s.data.toList
      · rw [if_pos ⟨c2, c3⟩, st_Bytes_j0, if_pos (by rw [beq_iff_eq]; exact c3)]
        rfl
      · rw [if_neg (fun hh => c3 hh.2)]
        exact hj _ (fun hh => c3 (by rw [beq_iff_eq] at hh; exact hh))
theorem KeysTake : backseatlaw03_KeysTake.Pure := by
  intro a0 a1 a2 h0 h2
  refine ⟨2000, ?_⟩
  have m0 : 0 ≤ mn (a0.size : Int) 100 ∧ mn (a0.size : Int) 100 ≤ (a0.size : Int) ∧ mn (a0.size : Int) 100 ≤ 100 := by unfold mn; omega
  have m1 : 0 ≤ mn (a2.size : Int) 20 ∧ mn (a2.size : Int) 20 ≤ (a2.size : Int) ∧ mn (a2.size : Int) 20 ≤ 20 := by unfold mn; omega
  unfold backseatlaw03_KeysTake.f
  rw [if_pos m0.1, if_pos m0.2.1, if_pos m1.1, if_pos m1.2.1]
  have s0 : (a0.extract 0 (mn (a0.size : Int) 100).toNat).size ≤ 100 := by rw [size_len, toList_take, List.length_take]; omega
  have s1 : (a2.extract 0 (mn (a2.size : Int) 20).toNat).size ≤ 20 := by rw [size_len, toList_take, List.length_take]; omega
  generalize a0.extract 0 (mn (a0.size : Int) 100).toNat = s at s0 ⊢
  generalize a2.extract 0 (mn (a2.size : Int) 20).toNat = n at s1 ⊢
  have hc := decL_count a1 s.data.toList.length s.data.toList
  rw [← size_len] at hc
  rw [decode_go s a1 (by omega), Option.bind_some]
  unfold keys_Bytes.f
  rw [if_pos (by omega), Option.bind_some, rdecode_go s a1 (by omega), Option.bind_some, same_refl _ (by rw [List.length_map, ← size_len]; omega) 2000 (by rw [List.length_map, ← size_len]; omega), Option.bind_some, if_pos rfl, if_pos rfl, alive_go, Option.bind_some]
  show backseatlaw03_KeysTake.j0 (1999 + 1) n (ba (bytesL n.data.toList).1) (bytesL n.data.toList).2 false = some true
  rw [st_lawKeysTake_j0, if_neg (by decide), rbytes_go n 1999 (by omega) (by omega), Option.bind_some, Lib.toList_data, ba_data]
  have hE : ((bytesL n.data.toList).1 = [] ∧ (bytesL n.data.toList).2 = 1) ∨ ((bytesL n.data.toList).1 ≠ [] ∧ (bytesL n.data.toList).2 = 0) := by
    cases hk : keyL n.data.toList with
    | some v =>
      right
      unfold bytesL
      rw [hk]
      exact ⟨keyL_pos hk, rfl⟩
    | none =>
      rw [bytesL_none _ hk]
      by_cases c1 : n.data.toList = [69, 115, 99]
      · rw [if_pos c1]; right; exact ⟨by decide, rfl⟩
      rw [if_neg c1]
      by_cases c2 : n.data.toList ≠ [] ∧ letterL n.data.toList = n.data.toList
      · rw [if_pos c2]; right; exact ⟨c2.1, rfl⟩
      rw [if_neg c2]
      split
      · right; exact ⟨by simp, rfl⟩
      · left; exact ⟨rfl, rfl⟩
  rcases hE with ⟨e1, e2⟩ | ⟨e1, e2⟩
  · rw [if_pos e1, if_pos e2, e1]; rfl
  · rw [if_neg e1, if_pos e2, beq_self_eq_true]
end Go.Proofs.YtbnpcnpdeinacaaDoor
