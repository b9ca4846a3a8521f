-- A copy of the text YthipdgnbpdngpaaDoorMFirst with what this claim does not reach left out (prune.py, a program of this project).
import Derived.Test.YthipdgnbpdngpaaDoorZpMUtf
import Derived.Test.YthipdgnbpdngpaaDoorZpPx3
namespace Go.Proofs.YthipdgnbpdngpaaDoor
open Go.RowKit Go.Lib Go.Proofs.YthipdgnbpdngpaaDoorW.PrintWords Go.Proofs.YthipdgnbpdngpaaDoorW.PrintLast Go.Proofs.YthipdgnbpdngpaaDoor.P
theorem w64 {i : Int} (h0 : 0 ≤ i) (h1 : i ≤ 1000000000000000000) : wrap64 i = i := by unfold wrap64; omega
theorem len_size (s : ByteArray) : s.data.toList.length = s.size := by rw [Array.length_toList]; rfl
theorem l0_step (s : ByteArray) (k : Nat) (m : Nat) (hm : m ≤ 10) : utf_First.l0 (k + 1) s (m : Int) =
    if m < s.size then (if fullL (s.data.toList.take (m + 1)) = true then some (0, (m : Int), 4) else utf_First.l0 k s ((m + 1 : Nat) : Int)) else some (0, (m : Int), 4) := by
  simp only [utf_First.l0]
  by_cases h : m < s.size
  · rw [if_pos (by omega : (m : Int) < (s.size : Int)), if_pos h, w64 (by omega) (by omega), if_pos (by omega), if_pos (by omega)]
    simp only [utf8_FullRuneInString.f, Option.bind_some, fullB_L, toList_extract, List.drop_zero]
    rw [show ((m : Int) + 1).toNat - 0 = m + 1 by omega]
    rfl
  · rw [if_neg (by omega : ¬ (m : Int) < (s.size : Int)), if_neg h]
theorem full_take (l : List UInt8) (j : Nat) (hj : j ≤ l.length) : fullL (l.take j) = fullN j (g l 0) (g l 1) (g l 2) := by
  unfold fullL fullN
  rw [List.length_take, Nat.min_eq_left hj]
  rw [decide_eq_decide]
  by_cases h0 : 0 < j
  · rw [g_take l j 0 h0]
    by_cases h1 : 1 < j
    · rw [g_take l j 1 h1]
      by_cases h2 : 2 < j
      · rw [g_take l j 2 h2]
      · simp [h2]
    · have h2 : ¬ 2 < j := by omega
      simp [h1, h2]
  · simp [h0]
/-- The loop of utf.First, from 1 on. -/
theorem loop_one (s : ByteArray) (k : Nat) (hk : 4 ≤ k) (h0 : 0 < s.size) : utf_First.l0 k s 1 =
    some (0, (if s.size ≤ 1 ∨ fullN 2 (g s.data.toList 0) (g s.data.toList 1) (g s.data.toList 2) = true then 1 else if s.size ≤ 2 ∨ fullN 3 (g s.data.toList 0) (g s.data.toList 1) (g s.data.toList 2) = true then 2 else 3), 4) := by
  obtain ⟨k, rfl⟩ : ∃ m, k = m + 4 := ⟨k - 4, by omega⟩
  have hl := len_size s
  have e1 := l0_step s (k + 3) 1 (by omega)
  have e2 := l0_step s (k + 2) 2 (by omega)
  have e3 := l0_step s (k + 1) 3 (by omega)
  have h4 : fullN 4 (g s.data.toList 0) (g s.data.toList 1) (g s.data.toList 2) = true := by
    simp only [fullN, decide_eq_true_eq]
    rcases firstT_cases (g s.data.toList 0) with h | h | h | h | h | h | h | h | h <;> rw [h] <;> omega
  rw [show ((1 : Nat) : Int) = 1 from rfl] at e1
  rw [e1]
  by_cases c1 : 1 < s.size
  · rw [if_pos c1, full_take _ 2 (by omega)]
    by_cases f2 : fullN 2 (g s.data.toList 0) (g s.data.toList 1) (g s.data.toList 2) = true
    · rw [if_pos f2, if_pos (.inr f2)]
    · rw [if_neg f2, if_neg (not_or.mpr ⟨by omega, f2⟩), e2]
      by_cases c2 : 2 < s.size
      · rw [if_pos c2, full_take _ 3 (by omega)]
        by_cases f3 : fullN 3 (g s.data.toList 0) (g s.data.toList 1) (g s.data.toList 2) = true
        · rw [if_pos f3, if_pos (.inr f3)] <;> rfl
        · rw [if_neg f3, if_neg (not_or.mpr ⟨by omega, f3⟩), e3]
          by_cases c3 : 3 < s.size
          · rw [if_pos c3, full_take _ 4 (by omega), if_pos h4] <;> rfl
          · rw [if_neg c3]
            rfl
      · rw [if_neg c2, if_pos (.inl (by omega))]
        rfl
  · rw [if_neg c1, if_pos (.inl (by omega))]
theorem first_bind (s : ByteArray) (k : Nat) (hk : 5 ≤ k) : utf_First.f k s =
    if fullL s.data.toList = true then (if (decodeGo s).1 = 65533 ∧ (decodeGo s).2 ≤ 1 then utf_First.l0 (k - 1) s (decodeGo s).2 else some (((decodeGo s).1 : Int), ((decodeGo s).2 : Int), 0)) else some (0, 0, 2) := by
  obtain ⟨k, rfl⟩ : ∃ m, k = m + 1 := ⟨k - 1, by omega⟩
  unfold utf_First.f
  simp only [utf8_FullRuneInString.f, utf8_DecodeRuneInString.f, Option.bind_some, fullB_L]
  split
  · by_cases h1 : (decodeGo s).1 = 65533
    · rw [if_pos (by omega : ((decodeGo s).1 : Int) = 65533)]
      by_cases h2 : (decodeGo s).2 ≤ 1
      · rw [if_pos ⟨h1, h2⟩, decide_eq_false (by omega : ¬ ((decodeGo s).2 : Int) > 1)]
        simp [utf_First.j0]
      · rw [if_neg (fun h => h2 h.2), decide_eq_true (by omega : ((decodeGo s).2 : Int) > 1)]
        simp [utf_First.j0]
    · rw [if_neg (by omega : ¬ ((decodeGo s).1 : Int) = 65533), if_neg (fun h => h1 h.1)]
      simp [utf_First.j0]
  · rfl
/-- firstL at a lead byte. -/
def leadZ (n b0 b1 b2 b3 sz lo hi : Nat) : Int × Int × Int :=
  if n = 1 then (0, 0, 2)
  else if b1 < lo ∨ hi < b1 then (0, 1, 4)
  else if sz = 2 then (((b0 % 32 * 64 + b1 % 64 : Nat) : Int), 2, 0)
  else if n = 2 then (0, 0, 2)
  else if b2 < 128 ∨ 191 < b2 then (0, 2, 4)
  else if sz = 3 then (((b0 % 16 * 4096 + b1 % 64 * 64 + b2 % 64 : Nat) : Int), 3, 0)
  else if n = 3 then (0, 0, 2)
  else if b3 < 128 ∨ 191 < b3 then (0, 3, 4)
  else (((b0 % 8 * 262144 + b1 % 64 * 4096 + b2 % 64 * 64 + b3 % 64 : Nat) : Int), 4, 0)
theorem firstL_lead (l : List UInt8) (sz : Nat) (hsz : sz = 2 ∨ sz = 3 ∨ sz = 4) (hn : l.length ≠ 0) (h128 : 128 ≤ g l 0) (h1 : szN (g l 0) = sz) :
    firstL l = leadZ l.length (g l 0) (g l 1) (g l 2) (g l 3) sz (loN (g l 0)) (hiN (g l 0)) := by
  unfold firstL leadZ val2 val3 val4
  rw [if_neg hn, if_neg (by omega), if_neg (by omega), h1]
theorem slow_cases (n b0 b1 b2 b3 sz lo hi : Nat) (hsz : sz = 2 ∨ sz = 3 ∨ sz = 4) :
    ((n < sz ∨ (b1 < lo ∨ hi < b1) ∨ (3 ≤ sz ∧ (b2 < 128 ∨ 191 < b2)) ∨ (4 ≤ sz ∧ (b3 < 128 ∨ 191 < b3))) ∧ slowN n b0 b1 b2 b3 sz lo hi = (65533, 1)) ∨
    (¬ (n < sz ∨ (b1 < lo ∨ hi < b1) ∨ (3 ≤ sz ∧ (b2 < 128 ∨ 191 < b2)) ∨ (4 ≤ sz ∧ (b3 < 128 ∨ 191 < b3))) ∧ ∃ v, slowN n b0 b1 b2 b3 sz lo hi = (v, sz) ∧
      v = if sz = 2 then b0 % 32 * 64 + b1 % 64 else if sz = 3 then b0 % 16 * 4096 + b1 % 64 * 64 + b2 % 64 else b0 % 8 * 262144 + b1 % 64 * 4096 + b2 % 64 * 64 + b3 % 64) := by
  by_cases hb : n < sz ∨ (b1 < lo ∨ hi < b1) ∨ (3 ≤ sz ∧ (b2 < 128 ∨ 191 < b2)) ∨ (4 ≤ sz ∧ (b3 < 128 ∨ 191 < b3))
  · refine .inl ⟨hb, ?_⟩
    unfold slowN
    by_cases c1 : n < sz
    · rw [if_pos c1]
    by_cases c2 : b1 < lo ∨ hi < b1
    · rw [if_neg c1, if_pos c2]
    have c3 : ¬ sz ≤ 2 := by omega
    by_cases c4 : b2 < 128 ∨ 191 < b2
    · rw [if_neg c1, if_neg c2, if_neg c3, if_pos c4]
    have c5 : ¬ sz ≤ 3 := by omega
    have c6 : b3 < 128 ∨ 191 < b3 := by omega
    rw [if_neg c1, if_neg c2, if_neg c3, if_neg c4, if_neg c5, if_pos c6]
  · refine .inr ⟨hb, _, ?_, rfl⟩
    unfold slowN
    have c1 : ¬ n < sz := by omega
    have c2 : ¬ (b1 < lo ∨ hi < b1) := by omega
    rw [if_neg c1, if_neg c2]
    rcases hsz with rfl | rfl | rfl
    · rw [if_pos (Nat.le_refl _), if_pos rfl]
    · rw [if_neg (by omega), if_neg (by omega), if_pos (Nat.le_refl _), if_neg (by omega), if_pos rfl]
    · rw [if_neg (by omega), if_neg (by omega), if_neg (by omega), if_neg (by omega), if_neg (by omega), if_neg (by omega)]
theorem lead_pure (n b0 b1 b2 b3 sz lo hi : Nat) (L : Option (Int × Int × Int)) (hn : n ≠ 0) (hsz : sz = 2 ∨ sz = 3 ∨ sz = 4)
    (hloop : L = some (0, (if n ≤ 1 ∨ (0 < 2 ∧ (sz ≤ 2 ∨ (1 < 2 ∧ (b1 < lo ∨ hi < b1)) ∨ (2 < 2 ∧ (b2 < 128 ∨ 191 < b2)))) then 1 else if n ≤ 2 ∨ (0 < 3 ∧ (sz ≤ 3 ∨ (1 < 3 ∧ (b1 < lo ∨ hi < b1)) ∨ (2 < 3 ∧ (b2 < 128 ∨ 191 < b2)))) then 2 else 3), 4)) :
    (if (0 < n ∧ (sz ≤ n ∨ (1 < n ∧ (b1 < lo ∨ hi < b1)) ∨ (2 < n ∧ (b2 < 128 ∨ 191 < b2)))) then (if (slowN n b0 b1 b2 b3 sz lo hi).1 = 65533 ∧ (slowN n b0 b1 b2 b3 sz lo hi).2 ≤ 1 then L else some (((slowN n b0 b1 b2 b3 sz lo hi).1 : Int), ((slowN n b0 b1 b2 b3 sz lo hi).2 : Int), 0)) else some (0, 0, 2)) =
      some (leadZ n b0 b1 b2 b3 sz lo hi) := by
  subst hloop
  unfold leadZ
  rcases slow_cases n b0 b1 b2 b3 sz lo hi hsz with ⟨hb, hs⟩ | ⟨hb, v, hs, hv⟩
  · rw [hs, if_pos (⟨rfl, Nat.le_refl _⟩ : (65533, 1).1 = 65533 ∧ (65533, 1).2 ≤ 1)]
    by_cases n1 : n = 1
    · rw [if_neg (by omega), if_pos n1]
    by_cases c1 : b1 < lo ∨ hi < b1
    · rw [if_pos (by omega), if_pos (by omega), if_neg n1, if_pos c1]
    have s2 : sz ≠ 2 := by omega
    by_cases n2 : n = 2
    · rw [if_neg (by omega), if_neg n1, if_neg c1, if_neg s2, if_pos n2]
    by_cases c2 : b2 < 128 ∨ 191 < b2
    · rw [if_pos (by omega), if_neg (by omega), if_pos (by omega), if_neg n1, if_neg c1, if_neg s2, if_neg n2, if_pos c2]
    have s3 : sz ≠ 3 := by omega
    by_cases n3 : n = 3
    · rw [if_neg (by omega), if_neg n1, if_neg c1, if_neg s2, if_neg n2, if_neg c2, if_neg s3, if_pos n3]
    have c3 : b3 < 128 ∨ 191 < b3 := by omega
    rw [if_pos (by omega), if_neg (by omega), if_neg (by omega), if_neg n1, if_neg c1, if_neg s2, if_neg n2, if_neg c2, if_neg s3, if_neg n3, if_pos c3]
  · have hno : ¬ ((v, sz).1 = 65533 ∧ (v, sz).2 ≤ 1) := fun h => by have := h.2; simp only at this; omega
    rw [hs, if_neg hno]
    clear hno hs
    rcases hsz with rfl | rfl | rfl
    · rw [if_pos (by omega), if_neg (by omega), if_neg (by omega), if_pos rfl, hv, if_pos rfl]; rfl
    · rw [if_pos (by omega), if_neg (by omega), if_neg (by omega), if_neg (by omega), if_neg (by omega), if_neg (by omega), if_pos rfl, hv, if_neg (by omega), if_pos rfl]; rfl
    · rw [if_pos (by omega), if_neg (by omega), if_neg (by omega), if_neg (by omega), if_neg (by omega), if_neg (by omega), if_neg (by omega), if_neg (by omega), if_neg (by omega), hv, if_neg (by omega), if_neg (by omega)]; rfl
theorem slow_bad (n b0 b1 b2 b3 sz lo hi : Nat) (hsz : sz = 2 ∨ sz = 3 ∨ sz = 4) (h : (slowN n b0 b1 b2 b3 sz lo hi).2 ≤ 1) : slowN n b0 b1 b2 b3 sz lo hi = (65533, 1) := by
  rcases slow_cases n b0 b1 b2 b3 sz lo hi hsz with ⟨_, hs⟩ | ⟨_, v, hs, _⟩
  · exact hs
  · rw [hs] at h; simp only at h; omega
/-- A lead byte of sz bytes. -/
theorem first_lead (s : ByteArray) (k : Nat) (hk : 6 ≤ k) (sz : Nat) (hsz : sz = 2 ∨ sz = 3 ∨ sz = 4) (hn : s.size ≠ 0) (h128 : 128 ≤ g s.data.toList 0) (h1 : szN (g s.data.toList 0) = sz)
    (hd : decodeN s.size (g s.data.toList 0) (g s.data.toList 1) (g s.data.toList 2) (g s.data.toList 3) = slowN s.size (g s.data.toList 0) (g s.data.toList 1) (g s.data.toList 2) (g s.data.toList 3) sz (loN (g s.data.toList 0)) (hiN (g s.data.toList 0))) :
    utf_First.f k s = some (firstL s.data.toList) := by
  have hl := len_size s
  have hF := firstL_lead s.data.toList sz hsz (by omega) h128 h1
  rw [hF, first_bind s k (by omega), decodeGo_L s hn, hl, hd]
  have hloop := loop_one s (k - 1) (by omega) (by omega)
  unfold fullL
  rw [hl]
  unfold fullN at hloop ⊢
  unfold szN at h1
  rw [h1] at hloop ⊢
  have el : accLo (firstT (g s.data.toList 0) / 16) = loN (g s.data.toList 0) := rfl
  have eh : accHi (firstT (g s.data.toList 0) / 16) = hiN (g s.data.toList 0) := rfl
  rw [el, eh] at hloop ⊢
  simp only [decide_eq_true_eq] at hloop ⊢
  by_cases hbb : (slowN s.size (g s.data.toList 0) (g s.data.toList 1) (g s.data.toList 2) (g s.data.toList 3) sz (loN (g s.data.toList 0)) (hiN (g s.data.toList 0))).1 = 65533 ∧ (slowN s.size (g s.data.toList 0) (g s.data.toList 1) (g s.data.toList 2) (g s.data.toList 3) sz (loN (g s.data.toList 0)) (hiN (g s.data.toList 0))).2 ≤ 1
  · have h2 := slow_bad _ _ _ _ _ _ _ _ hsz hbb.2
    have := lead_pure s.size (g s.data.toList 0) (g s.data.toList 1) (g s.data.toList 2) (g s.data.toList 3) sz (loN (g s.data.toList 0)) (hiN (g s.data.toList 0)) _ hn hsz hloop
    rw [h2] at this ⊢
    exact this
  · have := lead_pure s.size (g s.data.toList 0) (g s.data.toList 1) (g s.data.toList 2) (g s.data.toList 3) sz (loN (g s.data.toList 0)) (hiN (g s.data.toList 0)) _ hn hsz hloop
    rw [if_neg hbb] at this ⊢
    exact this
/-- utf.First, at every string. -/
theorem first_go (s : ByteArray) (k : Nat) (hk : 6 ≤ k) : utf_First.f k s = some (firstL s.data.toList) := by
  have hl := len_size s
  by_cases hn : s.size = 0
  · rw [first_bind s k (by omega)]
    have h1 : fullL s.data.toList = false := by unfold fullL fullN; rw [hl, hn]; simp
    rw [h1]
    unfold firstL
    rw [hl, if_pos hn]
    rfl
  have hg := g_lt s.data.toList 0
  have h1 := g_lt s.data.toList 1
  have h2 := g_lt s.data.toList 2
  have h3 := g_lt s.data.toList 3
  rcases lead_cases (g s.data.toList 0) hg with ⟨hb, hf⟩ | ⟨hb, hf⟩ | ⟨hb, hb', hf⟩ | ⟨hb, hf⟩ | ⟨hb, hf⟩ | ⟨hb, hf⟩ | ⟨hb, hf⟩ | ⟨hb, hb', hf⟩ | ⟨hb, hf⟩
  · rw [first_bind s k (by omega), decodeGo_L s hn, hl]
    have hfull : fullL s.data.toList = true := by unfold fullL fullN; rw [hl, hf]; simp; omega
    have hd : decodeN s.size (g s.data.toList 0) (g s.data.toList 1) (g s.data.toList 2) (g s.data.toList 3) = (g s.data.toList 0, 1) := by unfold decodeN; rw [if_pos hb]
    rw [hfull, hd, if_pos rfl]
    have hne : ¬ ((g s.data.toList 0, 1).1 = 65533 ∧ (g s.data.toList 0, 1).2 ≤ 1) := fun h => by have := h.1; simp only at this; omega
    rw [if_neg hne]
    unfold firstL
    rw [hl, if_neg hn, if_pos hb]
    rfl
  · rw [first_bind s k (by omega), decodeGo_L s hn, hl]
    have hfull : fullL s.data.toList = true := by unfold fullL fullN; rw [hl, hf]; simp; omega
    have hd := decodeN_bad s.size (g s.data.toList 0) (g s.data.toList 1) (g s.data.toList 2) (g s.data.toList 3) (by omega)
    rw [hfull, hd, if_pos rfl, if_pos (⟨rfl, Nat.le_refl _⟩ : (65533, 1).1 = 65533 ∧ (65533, 1).2 ≤ 1)]
    have h2 : fullN 2 (g s.data.toList 0) (g s.data.toList 1) (g s.data.toList 2) = true := by unfold fullN; rw [hf]; simp
    have hloop := loop_one s (k - 1) (by omega) (by omega)
    rw [if_pos (.inr h2)] at hloop
    unfold firstL
    rw [hl, if_neg hn, if_neg (by omega), if_pos (by unfold szN; rw [hf])]
    exact hloop
  · exact first_lead s k hk 2 (by omega) hn (by omega) (by unfold szN; rw [hf]) (by unfold loN hiN; rw [hf]; exact (slow_C2 _ _ _ _ _ (by omega) h1 h2 h3 ⟨hb, hb'⟩).symm)
  · exact first_lead s k hk 3 (by omega) hn (by omega) (by unfold szN; rw [hf]) (by unfold loN hiN; rw [hf]; exact (slow_E0 _ _ _ _ _ (by omega) h1 h2 h3 hb).symm)
  · exact first_lead s k hk 3 (by omega) hn (by omega) (by unfold szN; rw [hf]) (by unfold loN hiN; rw [hf]; exact (slow_E1 _ _ _ _ _ (by omega) h1 h2 h3 hb).symm)
  · exact first_lead s k hk 3 (by omega) hn (by omega) (by unfold szN; rw [hf]) (by unfold loN hiN; rw [hf]; exact (slow_ED _ _ _ _ _ (by omega) h1 h2 h3 hb).symm)
  · exact first_lead s k hk 4 (by omega) hn (by omega) (by unfold szN; rw [hf]) (by unfold loN hiN; rw [hf]; exact (slow_F0 _ _ _ _ _ (by omega) h1 h2 h3 hb).symm)
  · exact first_lead s k hk 4 (by omega) hn (by omega) (by unfold szN; rw [hf]) (by unfold loN hiN; rw [hf]; exact (slow_F1 _ _ _ _ _ (by omega) h1 h2 h3 ⟨hb, hb'⟩).symm)
  · exact first_lead s k hk 4 (by omega) hn (by omega) (by unfold szN; rw [hf]) (by unfold loN hiN; rw [hf]; exact (slow_F4 _ _ _ _ _ (by omega) h1 h2 h3 hb).symm)
end Go.Proofs.YthipdgnbpdngpaaDoor
