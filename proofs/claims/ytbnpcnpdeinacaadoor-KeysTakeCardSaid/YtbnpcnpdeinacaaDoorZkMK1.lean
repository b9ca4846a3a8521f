-- Copies of the texts YtbnpcnpdeinacaaDoorMFirst, YtbnpcnpdeinacaaDoorPxE, YtbnpcnpdeinacaaDoorMK1 with what this claim does not reach left out (prune.py, a program of this project).
import Derived.Test.YtbnpcnpdeinacaaDoorZkGWidth
import Derived.Test.YtbnpcnpdeinacaaDoorZkPx1
import Derived.Test.YtbnpcnpdeinacaaDoorZkPx0
section
namespace Go.Proofs.YtbnpcnpdeinacaaDoor
open Go.RowKit Go.Lib Go.Proofs.YtbnpcnpdeinacaaDoorW.PrintWords Go.Proofs.YtbnpcnpdeinacaaDoorW.PrintLast Go.Proofs.YtbnpcnpdeinacaaDoor.P
theorem w64 {i : Int} (h0 : 0 ≤ i) (h1 : i ≤ 1000000000000000000) : wrap64 i = i := by unfold wrap64; omega
theorem len_size (s : ByteArray) : s.data.toList.length = s.size := by rw [Array.length_toList]; rfl
theorem l0_step (s : ByteArray) (k : Nat) (m : Nat) (hm : m ≤ 10) : utf_First.l0 (k + 1) s (m : Int) =
    if m < s.size then (if fullL (s.data.toList.take (m + 1)) = true then some (0, (m : Int), 4) else utf_First.l0 k s ((m + 1 : Nat) : Int)) else some (0, (m : Int), 4) := by
  simp only [utf_First.l0]
  by_cases h : m < s.size
  · rw [if_pos (by omega : (m : Int) < (s.size : Int)), if_pos h, w64 (by omega) (by omega), if_pos (by omega), if_pos (by omega)]
    simp only [utf8_FullRuneInString.f, Option.bind_some, fullB_L, toList_extract, List.drop_zero]
    rw [show ((m : Int) + 1).toNat - 0 = m + 1 by omega]
    rfl
  · rw [if_neg (by omega : ¬ (m : Int) < (s.size : Int)), if_neg h]
theorem full_take (l : List UInt8) (j : Nat) (hj : j ≤ l.length) : fullL (l.take j) = fullN j (g l 0) (g l 1) (g l 2) := by
  unfold fullL fullN
  rw [List.length_take, Nat.min_eq_left hj]
  rw [decide_eq_decide]
  by_cases h0 : 0 < j
  · rw [g_take l j 0 h0]
    by_cases h1 : 1 < j
    · rw [g_take l j 1 h1]
      by_cases h2 : 2 < j
      · rw [g_take l j 2 h2]
      · simp [h2]
    · have h2 : ¬ 2 < j := by omega
      simp [h1, h2]
  · simp [h0]
/-- The loop of utf.First, from 1 on. -/
theorem loop_one (s : ByteArray) (k : Nat) (hk : 4 ≤ k) (h0 : 0 < s.size) : utf_First.l0 k s 1 =
    some (0, (if s.size ≤ 1 ∨ fullN 2 (g s.data.toList 0) (g s.data.toList 1) (g s.data.toList 2) = true then 1 else if s.size ≤ 2 ∨ fullN 3 (g s.data.toList 0) (g s.data.toList 1) (g s.data.toList 2) = true then 2 else 3), 4) := by
  obtain ⟨k, rfl⟩ : ∃ m, k = m + 4 := ⟨k - 4, by omega⟩
  have hl := len_size s
  have e1 := l0_step s (k + 3) 1 (by omega)
  have e2 := l0_step s (k + 2) 2 (by omega)
  have e3 := l0_step s (k + 1) 3 (by omega)
  have h4 : fullN 4 (g s.data.toList 0) (g s.data.toList 1) (g s.data.toList 2) = true := by
    simp only [fullN, decide_eq_true_eq]
    rcases firstT_cases (g s.data.toList 0) with h | h | h | h | h | h | h | h | h <;> rw [h] <;> omega
  rw [show ((1 : Nat) : Int) = 1 from rfl] at e1
  rw [e1]
  by_cases c1 : 1 < s.size
  · rw [if_pos c1, full_take _ 2 (by omega)]
    by_cases f2 : fullN 2 (g s.data.toList 0) (g s.data.toList 1) (g s.data.toList 2) = true
    · rw [if_pos f2, if_pos (.inr f2)]
    · rw [if_neg f2, if_neg (not_or.mpr ⟨by omega, f2⟩), e2]
      by_cases c2 : 2 < s.size
      · rw [if_pos c2, full_take _ 3 (by omega)]
        by_cases f3 : fullN 3 (g s.data.toList 0) (g s.data.toList 1) (g s.data.toList 2) = true
        · rw [if_pos f3, if_pos (.inr f3)] <;> rfl
        · rw [if_neg f3, if_neg (not_or.mpr ⟨by omega, f3⟩), e3]
          by_cases c3 : 3 < s.size
          · rw [if_pos c3, full_take _ 4 (by omega), if_pos h4] <;> rfl
          · rw [if_neg c3]
            rfl
      · rw [if_neg c2, if_pos (.inl (by omega))]
        rfl
  · rw [if_neg c1, if_pos (.inl (by omega))]
theorem first_bind (s : ByteArray) (k : Nat) (hk : 5 ≤ k) : utf_First.f k s =
    if fullL s.data.toList = true then (if (decodeGo s).1 = 65533 ∧ (decodeGo s).2 ≤ 1 then utf_First.l0 (k - 1) s (decodeGo s).2 else some (((decodeGo s).1 : Int), ((decodeGo s).2 : Int), 0)) else some (0, 0, 2) := by
  obtain ⟨k, rfl⟩ : ∃ m, k = m + 1 := ⟨k - 1, by omega⟩
  unfold utf_First.f
  simp only [utf8_FullRuneInString.f, utf8_DecodeRuneInString.f, Option.bind_some, fullB_L]
  split
  · by_cases h1 : (decodeGo s).1 = 65533
    · rw [if_pos (by omega : ((decodeGo s).1 : Int) = 65533)]
      by_cases h2 : (decodeGo s).2 ≤ 1
      · rw [if_pos ⟨h1, h2⟩, decide_eq_false (by omega : ¬ ((decodeGo s).2 : Int) > 1)]
        simp [utf_First.j0]
      · rw [if_neg (fun h => h2 h.2), decide_eq_true (by omega : ((decodeGo s).2 : Int) > 1)]
        simp [utf_First.j0]
    · rw [if_neg (by omega : ¬ ((decodeGo s).1 : Int) = 65533), if_neg (fun h => h1 h.1)]
      simp [utf_First.j0]
  · rfl
/-- firstL at a lead byte. -/
def leadZ (n b0 b1 b2 b3 sz lo hi : Nat) : Int × Int × Int :=
  if n = 1 then (0, 0, 2)
  else if b1 < lo ∨ hi < b1 then (0, 1, 4)
  else if sz = 2 then (((b0 % 32 * 64 + b1 % 64 : Nat) : Int), 2, 0)
  else if n = 2 then (0, 0, 2)
  else if b2 < 128 ∨ 191 < b2 then (0, 2, 4)
  else if sz = 3 then (((b0 % 16 * 4096 + b1 % 64 * 64 + b2 % 64 : Nat) : Int), 3, 0)
  else if n = 3 then (0, 0, 2)
  else if b3 < 128 ∨ 191 < b3 then (0, 3, 4)
  else (((b0 % 8 * 262144 + b1 % 64 * 4096 + b2 % 64 * 64 + b3 % 64 : Nat) : Int), 4, 0)
theorem firstL_lead (l : List UInt8) (sz : Nat) (hsz : sz = 2 ∨ sz = 3 ∨ sz = 4) (hn : l.length ≠ 0) (h128 : 128 ≤ g l 0) (h1 : szN (g l 0) = sz) :
    firstL l = leadZ l.length (g l 0) (g l 1) (g l 2) (g l 3) sz (loN (g l 0)) (hiN (g l 0)) := by
  unfold firstL leadZ val2 val3 val4
  rw [if_neg hn, if_neg (by omega), if_neg (by omega), h1]
theorem slow_cases (n b0 b1 b2 b3 sz lo hi : Nat) (hsz : sz = 2 ∨ sz = 3 ∨ sz = 4) :
    ((n < sz ∨ (b1 < lo ∨ hi < b1) ∨ (3 ≤ sz ∧ (b2 < 128 ∨ 191 < b2)) ∨ (4 ≤ sz ∧ (b3 < 128 ∨ 191 < b3))) ∧ slowN n b0 b1 b2 b3 sz lo hi = (65533, 1)) ∨
    (¬ (n < sz ∨ (b1 < lo ∨ hi < b1) ∨ (3 ≤ sz ∧ (b2 < 128 ∨ 191 < b2)) ∨ (4 ≤ sz ∧ (b3 < 128 ∨ 191 < b3))) ∧ ∃ v, slowN n b0 b1 b2 b3 sz lo hi = (v, sz) ∧
      v = if sz = 2 then b0 % 32 * 64 + b1 % 64 else if sz = 3 then b0 % 16 * 4096 + b1 % 64 * 64 + b2 % 64 else b0 % 8 * 262144 + b1 % 64 * 4096 + b2 % 64 * 64 + b3 % 64) := by
  by_cases hb : n < sz ∨ (b1 < lo ∨ hi < b1) ∨ (3 ≤ sz ∧ (b2 < 128 ∨ 191 < b2)) ∨ (4 ≤ sz ∧ (b3 < 128 ∨ 191 < b3))
  · refine .inl ⟨hb, ?_⟩
    unfold slowN
    by_cases c1 : n < sz
    · rw [if_pos c1]
    by_cases c2 : b1 < lo ∨ hi < b1
    · rw [if_neg c1, if_pos c2]
    have c3 : ¬ sz ≤ 2 := by omega
    by_cases c4 : b2 < 128 ∨ 191 < b2
    · rw [if_neg c1, if_neg c2, if_neg c3, if_pos c4]
    have c5 : ¬ sz ≤ 3 := by omega
    have c6 : b3 < 128 ∨ 191 < b3 := by omega
    rw [if_neg c1, if_neg c2, if_neg c3, if_neg c4, if_neg c5, if_pos c6]
  · refine .inr ⟨hb, _, ?_, rfl⟩
    unfold slowN
    have c1 : ¬ n < sz := by omega
    have c2 : ¬ (b1 < lo ∨ hi < b1) := by omega
    rw [if_neg c1, if_neg c2]
    rcases hsz with rfl | rfl | rfl
    · rw [if_pos (Nat.le_refl _), if_pos rfl]
    · rw [if_neg (by omega), if_neg (by omega), if_pos (Nat.le_refl _), if_neg (by omega), if_pos rfl]
    · rw [if_neg (by omega), if_neg (by omega), if_neg (by omega), if_neg (by omega), if_neg (by omega), if_neg (by omega)]
theorem lead_pure (n b0 b1 b2 b3 sz lo hi : Nat) (L : Option (Int × Int × Int)) (hn : n ≠ 0) (hsz : sz = 2 ∨ sz = 3 ∨ sz = 4)
    (hloop : L = some (0, (if n ≤ 1 ∨ (0 < 2 ∧ (sz ≤ 2 ∨ (1 < 2 ∧ (b1 < lo ∨ hi < b1)) ∨ (2 < 2 ∧ (b2 < 128 ∨ 191 < b2)))) then 1 else if n ≤ 2 ∨ (0 < 3 ∧ (sz ≤ 3 ∨ (1 < 3 ∧ (b1 < lo ∨ hi < b1)) ∨ (2 < 3 ∧ (b2 < 128 ∨ 191 < b2)))) then 2 else 3), 4)) :
    (if (0 < n ∧ (sz ≤ n ∨ (1 < n ∧ (b1 < lo ∨ hi < b1)) ∨ (2 < n ∧ (b2 < 128 ∨ 191 < b2)))) then (if (slowN n b0 b1 b2 b3 sz lo hi).1 = 65533 ∧ (slowN n b0 b1 b2 b3 sz lo hi).2 ≤ 1 then L else some (((slowN n b0 b1 b2 b3 sz lo hi).1 : Int), ((slowN n b0 b1 b2 b3 sz lo hi).2 : Int), 0)) else some (0, 0, 2)) =
      some (leadZ n b0 b1 b2 b3 sz lo hi) := by
  subst hloop
  unfold leadZ
  rcases slow_cases n b0 b1 b2 b3 sz lo hi hsz with ⟨hb, hs⟩ | ⟨hb, v, hs, hv⟩
  · rw [hs, if_pos (⟨rfl, Nat.le_refl _⟩ : (65533, 1).1 = 65533 ∧ (65533, 1).2 ≤ 1)]
    by_cases n1 : n = 1
    · rw [if_neg (by omega), if_pos n1]
    by_cases c1 : b1 < lo ∨ hi < b1
    · rw [if_pos (by omega), if_pos (by omega), if_neg n1, if_pos c1]
    have s2 : sz ≠ 2 := by omega
    by_cases n2 : n = 2
    · rw [if_neg (by omega), if_neg n1, if_neg c1, if_neg s2, if_pos n2]
    by_cases c2 : b2 < 128 ∨ 191 < b2
    · rw [if_pos (by omega), if_neg (by omega), if_pos (by omega), if_neg n1, if_neg c1, if_neg s2, if_neg n2, if_pos c2]
    have s3 : sz ≠ 3 := by omega
    by_cases n3 : n = 3
    · rw [if_neg (by omega), if_neg n1, if_neg c1, if_neg s2, if_neg n2, if_neg c2, if_neg s3, if_pos n3]
    have c3 : b3 < 128 ∨ 191 < b3 := by omega
    rw [if_pos (by omega), if_neg (by omega), if_neg (by omega), if_neg n1, if_neg c1, if_neg s2, if_neg n2, if_neg c2, if_neg s3, if_neg n3, if_pos c3]
  · have hno : ¬ ((v, sz).1 = 65533 ∧ (v, sz).2 ≤ 1) := fun h => by have := h.2; simp only at this; omega
    rw [hs, if_neg hno]
    clear hno hs
    rcases hsz with rfl | rfl | rfl
    · rw [if_pos (by omega), if_neg (by omega), if_neg (by omega), if_pos rfl, hv, if_pos rfl]; rfl
    · rw [if_pos (by omega), if_neg (by omega), if_neg (by omega), if_neg (by omega), if_neg (by omega), if_neg (by omega), if_pos rfl, hv, if_neg (by omega), if_pos rfl]; rfl
    · rw [if_pos (by omega), if_neg (by omega), if_neg (by omega), if_neg (by omega), if_neg (by omega), if_neg (by omega), if_neg (by omega), if_neg (by omega), if_neg (by omega), hv, if_neg (by omega), if_neg (by omega)]; rfl
theorem slow_bad (n b0 b1 b2 b3 sz lo hi : Nat) (hsz : sz = 2 ∨ sz = 3 ∨ sz = 4) (h : (slowN n b0 b1 b2 b3 sz lo hi).2 ≤ 1) : slowN n b0 b1 b2 b3 sz lo hi = (65533, 1) := by
  rcases slow_cases n b0 b1 b2 b3 sz lo hi hsz with ⟨_, hs⟩ | ⟨_, v, hs, _⟩
  · exact hs
  · rw [hs] at h; simp only at h; omega
/-- A lead byte of sz bytes. -/
theorem first_lead (s : ByteArray) (k : Nat) (hk : 6 ≤ k) (sz : Nat) (hsz : sz = 2 ∨ sz = 3 ∨ sz = 4) (hn : s.size ≠ 0) (h128 : 128 ≤ g s.data.toList 0) (h1 : szN (g s.data.toList 0) = sz)
    (hd : decodeN s.size (g s.data.toList 0) (g s.data.toList 1) (g s.data.toList 2) (g s.data.toList 3) = slowN s.size (g s.data.toList 0) (g s.data.toList 1) (g s.data.toList 2) (g s.data.toList 3) sz (loN (g s.data.toList 0)) (hiN (g s.data.toList 0))) :
    utf_First.f k s = some (firstL s.data.toList) := by
  have hl := len_size s
  have hF := firstL_lead s.data.toList sz hsz (by omega) h128 h1
  rw [hF, first_bind s k (by omega), decodeGo_L s hn, hl, hd]
  have hloop := loop_one s (k - 1) (by omega) (by omega)
  unfold fullL
  rw [hl]
  unfold fullN at hloop ⊢
  unfold szN at h1
  rw [h1] at hloop ⊢
  have el : accLo (firstT (g s.data.toList 0) / 16) = loN (g s.data.toList 0) := rfl
  have eh : accHi (firstT (g s.data.toList 0) / 16) = hiN (g s.data.toList 0) := rfl
  rw [el, eh] at hloop ⊢
  simp only [decide_eq_true_eq] at hloop ⊢
  by_cases hbb : (slowN s.size (g s.data.toList 0) (g s.data.toList 1) (g s.data.toList 2) (g s.data.toList 3) sz (loN (g s.data.toList 0)) (hiN (g s.data.toList 0))).1 = 65533 ∧ (slowN s.size (g s.data.toList 0) (g s.data.toList 1) (g s.data.toList 2) (g s.data.toList 3) sz (loN (g s.data.toList 0)) (hiN (g s.data.toList 0))).2 ≤ 1
  · have h2 := slow_bad _ _ _ _ _ _ _ _ hsz hbb.2
    have := lead_pure s.size (g s.data.toList 0) (g s.data.toList 1) (g s.data.toList 2) (g s.data.toList 3) sz (loN (g s.data.toList 0)) (hiN (g s.data.toList 0)) _ hn hsz hloop
    rw [h2] at this ⊢
    exact this
  · have := lead_pure s.size (g s.data.toList 0) (g s.data.toList 1) (g s.data.toList 2) (g s.data.toList 3) sz (loN (g s.data.toList 0)) (hiN (g s.data.toList 0)) _ hn hsz hloop
    rw [if_neg hbb] at this ⊢
    exact this
/-- utf.First, at every string. -/
theorem first_go (s : ByteArray) (k : Nat) (hk : 6 ≤ k) : utf_First.f k s = some (firstL s.data.toList) := by
  have hl := len_size s
  by_cases hn : s.size = 0
  · rw [first_bind s k (by omega)]
    have h1 : fullL s.data.toList = false := by unfold fullL fullN; rw [hl, hn]; simp
    rw [h1]
    unfold firstL
    rw [hl, if_pos hn]
    rfl
  have hg := g_lt s.data.toList 0
  have h1 := g_lt s.data.toList 1
  have h2 := g_lt s.data.toList 2
  have h3 := g_lt s.data.toList 3
  rcases lead_cases (g s.data.toList 0) hg with ⟨hb, hf⟩ | ⟨hb, hf⟩ | ⟨hb, hb', hf⟩ | ⟨hb, hf⟩ | ⟨hb, hf⟩ | ⟨hb, hf⟩ | ⟨hb, hf⟩ | ⟨hb, hb', hf⟩ | ⟨hb, hf⟩
  · rw [first_bind s k (by omega), decodeGo_L s hn, hl]
    have hfull : fullL s.data.toList = true := by unfold fullL fullN; rw [hl, hf]; simp; omega
    have hd : decodeN s.size (g s.data.toList 0) (g s.data.toList 1) (g s.data.toList 2) (g s.data.toList 3) = (g s.data.toList 0, 1) := by unfold decodeN; rw [if_pos hb]
    rw [hfull, hd, if_pos rfl]
    have hne : ¬ ((g s.data.toList 0, 1).1 = 65533 ∧ (g s.data.toList 0, 1).2 ≤ 1) := fun h => by have := h.1; simp only at this; omega
    rw [if_neg hne]
    unfold firstL
    rw [hl, if_neg hn, if_pos hb]
    rfl
  · rw [first_bind s k (by omega), decodeGo_L s hn, hl]
    have hfull : fullL s.data.toList = true := by unfold fullL fullN; rw [hl, hf]; simp; omega
    have hd := decodeN_bad s.size (g s.data.toList 0) (g s.data.toList 1) (g s.data.toList 2) (g s.data.toList 3) (by omega)
    rw [hfull, hd, if_pos rfl, if_pos (⟨rfl, Nat.le_refl _⟩ : (65533, 1).1 = 65533 ∧ (65533, 1).2 ≤ 1)]
    have h2 : fullN 2 (g s.data.toList 0) (g s.data.toList 1) (g s.data.toList 2) = true := by unfold fullN; rw [hf]; simp
    have hloop := loop_one s (k - 1) (by omega) (by omega)
    rw [if_pos (.inr h2)] at hloop
    unfold firstL
    rw [hl, if_neg hn, if_neg (by omega), if_pos (by unfold szN; rw [hf])]
    exact hloop
  · exact first_lead s k hk 2 (by omega) hn (by omega) (by unfold szN; rw [hf]) (by unfold loN hiN; rw [hf]; exact (slow_C2 _ _ _ _ _ (by omega) h1 h2 h3 ⟨hb, hb'⟩).symm)
  · exact first_lead s k hk 3 (by omega) hn (by omega) (by unfold szN; rw [hf]) (by unfold loN hiN; rw [hf]; exact (slow_E0 _ _ _ _ _ (by omega) h1 h2 h3 hb).symm)
  · exact first_lead s k hk 3 (by omega) hn (by omega) (by unfold szN; rw [hf]) (by unfold loN hiN; rw [hf]; exact (slow_E1 _ _ _ _ _ (by omega) h1 h2 h3 hb).symm)
  · exact first_lead s k hk 3 (by omega) hn (by omega) (by unfold szN; rw [hf]) (by unfold loN hiN; rw [hf]; exact (slow_ED _ _ _ _ _ (by omega) h1 h2 h3 hb).symm)
  · exact first_lead s k hk 4 (by omega) hn (by omega) (by unfold szN; rw [hf]) (by unfold loN hiN; rw [hf]; exact (slow_F0 _ _ _ _ _ (by omega) h1 h2 h3 hb).symm)
  · exact first_lead s k hk 4 (by omega) hn (by omega) (by unfold szN; rw [hf]) (by unfold loN hiN; rw [hf]; exact (slow_F1 _ _ _ _ _ (by omega) h1 h2 h3 ⟨hb, hb'⟩).symm)
  · exact first_lead s k hk 4 (by omega) hn (by omega) (by unfold szN; rw [hf]) (by unfold loN hiN; rw [hf]; exact (slow_F4 _ _ _ _ _ (by omega) h1 h2 h3 hb).symm)
end Go.Proofs.YtbnpcnpdeinacaaDoor
end
section
namespace Go.Proofs.YtbnpcnpdeinacaaDoor.P
open Go.RowKit Go.Proofs.YtbnpcnpdeinacaaDoor Go.Proofs.YtbnpcnpdeinacaaDoorW.PrintWords Go.Proofs.YtbnpcnpdeinacaaDoorW.PrintLast Go.Proofs.YtbnpcnpdeinacaaDoorW.PrintMore
attribute [local go_sem] max2_int min2_int max_two min_two max_three min_three max_four min_four   -- for this text's walks alone
set_option linter.unusedVariables false
set_option linter.unusedSimpArgs false
mutual
def keys_escaped.j0 : Nat → ByteArray → Bool → Option (ByteArray × Int)
  | 0, _, _ => none
  | k + 1, x0, x1 => if 1 ≤ (x0.size : Int) then ((keys_letter.f k (x0.extract 1 x0.size)).bind fun t115 => (if t115.toList = ([] : List UInt8) then (keys_escaped.j1 k x1 (x0.extract 1 x0.size) t115 false) else (if t115.toList = ([91] : List UInt8) then (keys_escaped.j1 k x1 (x0.extract 1 x0.size) t115 false) else (keys_escaped.j1 k x1 (x0.extract 1 x0.size) t115 (t115.toList != ([79] : List UInt8)))))) else (none)
def keys_escaped.j1 : Nat → Bool → ByteArray → ByteArray → Bool → Option (ByteArray × Int)
  | 0, _, _, _, _ => none
  | k + 1, x1, x7, x8, x28 => if x28 = true then (if 2 + x8.size ≤ 9223372036854775807 then (some ((⟨#[77, 45]⟩ : ByteArray) ++ x8, wrap64 (1 + (x8.size : Int)))) else (none)) else ((keys_short.f k x7).bind fun t116 => (if t116 = true then (if x1 = true then (some ((⟨#[69, 115, 99]⟩ : ByteArray), 1)) else (some ((⟨#[]⟩ : ByteArray), 0))) else (some ((⟨#[69, 115, 99]⟩ : ByteArray), 1))))
end
def keys_escaped.f (k : Nat) (a0 : ByteArray) (a1 : Bool) : Option (ByteArray × Int) := (strings_HasPrefix.f a0 (⟨#[27, 91]⟩ : ByteArray)).bind fun t113 => (if t113 = true then ((keys_control.f k a0).bind fun t114 => (if t114 > 0 then (some ((⟨#[63]⟩ : ByteArray), t114)) else (if t114 < 0 then (if a1 = true then (keys_escaped.j0 k a0 a1) else (some ((⟨#[]⟩ : ByteArray), 0))) else (keys_escaped.j0 k a0 a1)))) else (keys_escaped.j0 k a0 a1))
theorem keys_escaped.mono_l : ∀ k, (∀ y0 y1, LeO (keys_escaped.j0 k y0 y1) (keys_escaped.j0 (k + 1) y0 y1)) ∧ (∀ y0 y1 y2 y3, LeO (keys_escaped.j1 k y0 y1 y2 y3) (keys_escaped.j1 (k + 1) y0 y1 y2 y3))
  | 0 => ⟨fun _ _ r h => by simp [keys_escaped.j0] at h, fun _ _ _ _ r h => by simp [keys_escaped.j1] at h⟩
  | k + 1 => by
    obtain ⟨ih0, ih1⟩ := keys_escaped.mono_l k
    refine ⟨?_, ?_⟩
    · intro y0 y1
      unfold keys_escaped.j0
      repeat' first
      | (with_reducible exact ih0 _ _)
      | (with_reducible exact ih1 _ _ _ _)
      | (with_reducible exact keys_control.mono _ _)
      | (with_reducible exact keys_letter.mono _ _)
      | (with_reducible exact keys_short.mono _ _)
      | (with_reducible exact LeO.refl _)
      | (with_reducible exact LeO.none _)
      | (with_reducible refine LeO.ite ?_ ?_)
      | (with_reducible refine LeO.bind ?_ (fun _ => ?_))
      | exact ih0 _ _
      | exact ih1 _ _ _ _
      | exact keys_control.mono _ _
      | exact keys_letter.mono _ _
      | exact keys_short.mono _ _
      | exact LeO.none _
      | refine LeO.ite ?_ ?_
      | refine LeO.bind ?_ (fun _ => ?_)
    · intro y0 y1 y2 y3
      unfold keys_escaped.j1
      repeat' first
      | (with_reducible exact ih0 _ _)
      | (with_reducible exact ih1 _ _ _ _)
      | (with_reducible exact keys_control.mono _ _)
      | (with_reducible exact keys_letter.mono _ _)
      | (with_reducible exact keys_short.mono _ _)
      | (with_reducible exact LeO.refl _)
      | (with_reducible exact LeO.none _)
      | (with_reducible refine LeO.ite ?_ ?_)
      | (with_reducible refine LeO.bind ?_ (fun _ => ?_))
      | exact ih0 _ _
      | exact ih1 _ _ _ _
      | exact keys_control.mono _ _
      | exact keys_letter.mono _ _
      | exact keys_short.mono _ _
      | exact LeO.none _
      | refine LeO.ite ?_ ?_
      | refine LeO.bind ?_ (fun _ => ?_)
theorem keys_escaped.mono : ∀ a0 a1 k, LeO (keys_escaped.f k a0 a1) (keys_escaped.f (k + 1) a0 a1) := by
  intro a0 a1 k
  obtain ⟨ih0, ih1⟩ := keys_escaped.mono_l k
  unfold keys_escaped.f
  repeat' first
      | (with_reducible exact ih0 _ _)
      | (with_reducible exact ih1 _ _ _ _)
      | (with_reducible exact keys_control.mono _ _)
      | (with_reducible exact keys_letter.mono _ _)
      | (with_reducible exact keys_short.mono _ _)
      | (with_reducible exact LeO.refl _)
      | (with_reducible exact LeO.none _)
      | (with_reducible refine LeO.ite ?_ ?_)
      | (with_reducible refine LeO.bind ?_ (fun _ => ?_))
      | exact ih0 _ _
      | exact ih1 _ _ _ _
      | exact keys_control.mono _ _
      | exact keys_letter.mono _ _
      | exact keys_short.mono _ _
      | exact LeO.none _
      | refine LeO.ite ?_ ?_
      | refine LeO.bind ?_ (fun _ => ?_)
set_option maxHeartbeats 8000000 in
set_option maxRecDepth 100000 in
theorem keys_escaped.calls (k : Nat) (a0 : ByteArray) (a1 : Bool) (r1 : ByteArray) (r2 : Int) (w : World) (h : keys_escaped.f k a0 a1 = some (r1, r2)) (hT : TabsAt w := by first | with_reducible assumption | exact tabs_here (by with_reducible assumption) (by repeat (with_reducible first | assumption | apply below_alloc | apply pw_below_drewN | apply below_drew1 | (refine Below.setCell ?_ ?_ _) | exact Aside0.out (by assumption)))) :
    Calls Tryd.prog 21 #[.string a0, .bool a1] w fun e w' => e = .returned (.tuple #[.string r1, .int .i64 r2]) ∧ Below w.heap.size w w' := by
  have HB := Aside0.mk (Below.refl w.heap.size w)
  have H : ((strings_HasPrefix.f a0 (⟨#[27, 91]⟩ : ByteArray)).bind fun t113 => (if t113 = true then ((keys_control.f k a0).bind fun t114 => (if t114 > 0 then (some ((⟨#[63]⟩ : ByteArray), t114)) else (if t114 < 0 then (if a1 = true then (keys_escaped.j0 k a0 a1) else (some ((⟨#[]⟩ : ByteArray), 0))) else (keys_escaped.j0 k a0 a1)))) else (keys_escaped.j0 k a0 a1))) = some (r1, r2) := h
  clear h
  replace H := Option.bind_eq_some_iff.mp H
  obtain ⟨t113, A30, H⟩ := H
  replace H : (if t113 = true then ((keys_control.f k a0).bind fun t114 => (if t114 > 0 then (some ((⟨#[63]⟩ : ByteArray), t114)) else (if t114 < 0 then (if a1 = true then (keys_escaped.j0 k a0 a1) else (some ((⟨#[]⟩ : ByteArray), 0))) else (keys_escaped.j0 k a0 a1)))) else (keys_escaped.j0 k a0 a1)) = some (r1, r2) := H
  have A3 := Aside0.mk A30
  clear A30
  have HC4 := Aside0.mk H
  clear H
  go_enter Tryd.func21, Tryd.ntmps21
  go_upto_if 10 with (first | ((with_reducible refine gate_callee (f := 20) rfl ?_); refine goesL_ (some 10) rfl rfl Tryd.func20 (by kernel_rfl) rfl #[.string a0, .string (⟨#[27, 91]⟩ : ByteArray)] rfl (by (try simp only [List.map_toArray, List.map_cons, List.map_nil]); first | done | rfl | (simp only [List.length_drop, List.length_take]; rfl)) ?_; (with_reducible refine (strings_HasPrefix.calls a0 (⟨#[27, 91]⟩ : ByteArray) t113 _ A3.out).mono ?_); rintro e w' ⟨rfl, ⟨nd, rfl⟩⟩; refine ⟨_, rfl, ?_⟩))
  (try simp only [Act.put, List.setIfInBounds_toArray, List.set_cons_zero, List.set_cons_succ])
  go_cut [] (fun wc => ∃ (kq : Nat), Aside0 (keys_escaped.j0 kq a0 a1 = some (r1, r2)) ∧ Aside0 (kq ≤ k) ∧ Aside0 (Below w.heap.size w wc))
  case first =>
    have H := HC4.out
    clear HC4
    by_cases c5 : t113 = true
    · subst c5
      have H1 : ((keys_control.f k a0).bind fun t114 => (if t114 > 0 then (some ((⟨#[63]⟩ : ByteArray), t114)) else (if t114 < 0 then (if a1 = true then (keys_escaped.j0 k a0 a1) else (some ((⟨#[]⟩ : ByteArray), 0))) else (keys_escaped.j0 k a0 a1)))) = some (r1, r2) := by rw [if_pos rfl] at H; exact H
      clear H
      have H := H1
      clear H1
      replace H := Option.bind_eq_some_iff.mp H
      obtain ⟨t114, A60, H⟩ := H
      replace H : (if t114 > 0 then (some ((⟨#[63]⟩ : ByteArray), t114)) else (if t114 < 0 then (if a1 = true then (keys_escaped.j0 k a0 a1) else (some ((⟨#[]⟩ : ByteArray), 0))) else (keys_escaped.j0 k a0 a1))) = some (r1, r2) := H
      have A6 := Aside0.mk A60
      clear A60
      by_cases c7 : t114 > 0
      · rw [if_pos c7] at H
        have c7b0 : decide (0 < t114) = true := decide_eq_true c7
        clear c7
        (first | rw [c7b0] | (simp only [i64_w, i32_w]; rw [c7b0]) | skip)
        simp only [Option.some.injEq, Prod.mk.injEq] at H
        obtain ⟨rfl, rfl⟩ := H
        go_wp2_with (first | ((with_reducible refine gate_callee (f := 34) rfl ?_); refine goesL_ (some 12) rfl rfl Tryd.func34 (by kernel_rfl) rfl #[.string a0] rfl (by (try simp only [List.map_toArray, List.map_cons, List.map_nil]); first | done | rfl | (simp only [List.length_drop, List.length_take]; rfl)) ?_; (with_reducible refine (keys_control.calls k a0 t114 _ A6.out).mono ?_); rintro e w' ⟨rfl, ⟨nd, rfl⟩⟩; refine ⟨_, rfl, ?_⟩))
        go_ret2
        exact ⟨by first | rfl | (simp [errW_none, errW_some] <;> rfl) | (simp [*, errW_none, errW_some] <;> rfl), by repeat (first | (with_reducible first | exact HB.out | apply below_alloc | apply pw_below_drewN | apply below_drew1) | exact HB.out)⟩
      · rw [if_neg c7] at H
        have c7b0 : decide (0 < t114) = false := decide_eq_false c7
        clear c7
        (first | rw [c7b0] | (simp only [i64_w, i32_w]; rw [c7b0]) | skip)
        by_cases c8 : t114 < 0
        · rw [if_pos c8] at H
          have c8b0 : decide (t114 < 0) = true := decide_eq_true c8
          clear c8
          by_cases c9 : a1 = true
          · subst c9
            have H1 : (keys_escaped.j0 k a0 true) = some (r1, r2) := by rw [if_pos rfl] at H; exact H
            clear H
            have H := H1
            clear H1
            have H' := Aside0.mk H
            clear H
            go_wp2_with (first | ((with_reducible refine gate_callee (f := 34) rfl ?_); refine goesL_ (some 12) rfl rfl Tryd.func34 (by kernel_rfl) rfl #[.string a0] rfl (by (try simp only [List.map_toArray, List.map_cons, List.map_nil]); first | done | rfl | (simp only [List.length_drop, List.length_take]; rfl)) ?_; (with_reducible refine (keys_control.calls k a0 t114 _ A6.out).mono ?_); rintro e w' ⟨rfl, ⟨nd, rfl⟩⟩; refine ⟨_, rfl, ?_⟩))
            go_meet
            case rel => exact ⟨_, H', ⟨by first | omega | exact Nat.le_refl _⟩, ⟨by repeat (first | (with_reducible first | exact HB.out | apply below_alloc | apply pw_below_drewN | apply below_drew1) | exact HB.out)⟩⟩
          · replace c9 := Bool.eq_false_iff.mpr c9
            subst c9
            have H1 : (some ((⟨#[]⟩ : ByteArray), 0)) = some (r1, r2) := by rw [if_neg (show ¬ (false = true) by decide)] at H; exact H
            clear H
            have H := H1
            clear H1
            simp only [Option.some.injEq, Prod.mk.injEq] at H
            obtain ⟨rfl, rfl⟩ := H
            go_wp2_with (first | ((with_reducible refine gate_callee (f := 34) rfl ?_); refine goesL_ (some 12) rfl rfl Tryd.func34 (by kernel_rfl) rfl #[.string a0] rfl (by (try simp only [List.map_toArray, List.map_cons, List.map_nil]); first | done | rfl | (simp only [List.length_drop, List.length_take]; rfl)) ?_; (with_reducible refine (keys_control.calls k a0 t114 _ A6.out).mono ?_); rintro e w' ⟨rfl, ⟨nd, rfl⟩⟩; refine ⟨_, rfl, ?_⟩))
            go_ret2
            exact ⟨by first | rfl | (simp [errW_none, errW_some] <;> rfl) | (simp [*, errW_none, errW_some] <;> rfl), by repeat (first | (with_reducible first | exact HB.out | apply below_alloc | apply pw_below_drewN | apply below_drew1) | exact HB.out)⟩
        · rw [if_neg c8] at H
          have c8b0 : decide (t114 < 0) = false := decide_eq_false c8
          clear c8
          have H' := Aside0.mk H
          clear H
          go_wp2_with (first | ((with_reducible refine gate_callee (f := 34) rfl ?_); refine goesL_ (some 12) rfl rfl Tryd.func34 (by kernel_rfl) rfl #[.string a0] rfl (by (try simp only [List.map_toArray, List.map_cons, List.map_nil]); first | done | rfl | (simp only [List.length_drop, List.length_take]; rfl)) ?_; (with_reducible refine (keys_control.calls k a0 t114 _ A6.out).mono ?_); rintro e w' ⟨rfl, ⟨nd, rfl⟩⟩; refine ⟨_, rfl, ?_⟩))
          go_meet
          case rel => exact ⟨_, H', ⟨by first | omega | exact Nat.le_refl _⟩, ⟨by repeat (first | (with_reducible first | exact HB.out | apply below_alloc | apply pw_below_drewN | apply below_drew1) | exact HB.out)⟩⟩
    · replace c5 := Bool.eq_false_iff.mpr c5
      subst c5
      have H1 : (keys_escaped.j0 k a0 a1) = some (r1, r2) := by rw [if_neg (show ¬ (false = true) by decide)] at H; exact H
      clear H
      have H := H1
      clear H1
      have H' := Aside0.mk H
      clear H
      go_wp2
      go_meet
      case rel => exact ⟨_, H', ⟨by first | omega | exact Nat.le_refl _⟩, ⟨by repeat (first | (with_reducible first | exact HB.out | apply below_alloc | apply pw_below_drewN | apply below_drew1) | exact HB.out)⟩⟩
  case rest =>
    clear HC4
    try clear c2
    try clear p2
    try clear c3
    try clear c5
    try clear c7
    try clear c7b0
    try clear c8
    try clear c8b0
    try clear c9
    obtain ⟨kq, HA, HJ3, HB⟩ := hcut
    cases kq with
    | zero => exact absurd HA.out (by simp [keys_escaped.j0])
    | succ kj3 =>
      have H := HA.out
      clear HA
      simp only [keys_escaped.j0] at H
      by_cases c10 : 1 ≤ (a0.size : Int)
      · rw [if_pos c10] at H
        have c10b0 := eq_true c10
        have c10b1 : decide (1 ≤ (a0.size : Int)) = true := decide_eq_true c10
        clear c10
        replace H := Option.bind_eq_some_iff.mp H
        obtain ⟨t115, A110, H⟩ := H
        replace H : (if t115.toList = ([] : List UInt8) then (keys_escaped.j1 kj3 a1 (a0.extract 1 a0.size) t115 false) else (if t115.toList = ([91] : List UInt8) then (keys_escaped.j1 kj3 a1 (a0.extract 1 a0.size) t115 false) else (keys_escaped.j1 kj3 a1 (a0.extract 1 a0.size) t115 (t115.toList != ([79] : List UInt8))))) = some (r1, r2) := H
        have A11 := Aside0.mk A110
        clear A110
        have HC12 := Aside0.mk H
        clear H
        go_upto_region 9 with (first | ((with_reducible refine gate_callee (f := 15) rfl ?_); refine goesL_ (some 27) rfl rfl Tryd.func15 (by kernel_rfl) rfl #[.string (a0.extract 1 a0.size)] rfl (by (try simp only [List.map_toArray, List.map_cons, List.map_nil]); first | done | rfl | (simp only [List.length_drop, List.length_take]; rfl)) ?_; (with_reducible refine (keys_letter.calls kj3 (a0.extract 1 a0.size) t115 _ A11.out).mono ?_); rintro e w13 ⟨rfl, hb⟩; refine ⟨_, rfl, ?_⟩; have n0_ := Aside0.mk (below_step (by repeat (first | (with_reducible first | exact HB.out | apply below_alloc | apply pw_below_drewN | apply below_drew1) | exact HB.out)) hb); clear HB; have HB := n0_; clear n0_; (try clear hb); (try clear hb2); (try clear hk); (try clear hi)))
        (try simp only [Act.put, List.setIfInBounds_toArray, List.set_cons_zero, List.set_cons_succ])
        go_cut [28] (fun v28 wc => ∃ (kq : Nat) (x28_11 : Bool), v28 = .bool x28_11 ∧ Aside0 (keys_escaped.j1 kq a1 (a0.extract 1 a0.size) t115 x28_11 = some (r1, r2)) ∧ Aside0 (kq ≤ kj3) ∧ Aside0 (Below w.heap.size w wc))
        case first =>
          have H := HC12.out
          clear HC12
          by_cases c14 : t115.toList = ([] : List UInt8)
          · rw [if_pos c14] at H
            have c14b0 : (t115.toList == ([] : List UInt8)) = true := beq_iff_eq.mpr c14
            have c14b1 : (t115.toList != ([] : List UInt8)) = false := bne_eq_false_iff_eq.mpr c14
            clear c14
            (first | rw [c14b0] | (simp only [i64_w, i32_w]; rw [c14b0]) | skip)
            have H' := Aside0.mk H
            clear H
            go_wp2
            go_meet
            case rel => exact ⟨_, (false), (by first | rfl | (simp; done) | (simp [*]; done)), H', ⟨by have := HJ3.out; first | omega | exact Nat.le_refl _⟩, ⟨by repeat (first | (with_reducible first | exact HB.out | apply below_alloc | apply pw_below_drewN | apply below_drew1) | exact HB.out)⟩⟩
          · rw [if_neg c14] at H
            have c14b0 : (t115.toList == ([] : List UInt8)) = false := beq_eq_false_iff_ne.mpr c14
            have c14b1 : (t115.toList != ([] : List UInt8)) = true := bne_iff_ne.mpr c14
            (first | rw [c14b0] | (simp only [i64_w, i32_w]; rw [c14b0]) | skip)
            by_cases c15 : t115.toList = ([91] : List UInt8)
            · rw [if_pos c15] at H
              have c15b0 : (t115.toList == ([91] : List UInt8)) = true := beq_iff_eq.mpr c15
              have c15b1 : (t115.toList != ([91] : List UInt8)) = false := bne_eq_false_iff_eq.mpr c15
              clear c15
              have H' := Aside0.mk H
              clear H
              go_wp2
              go_meet
              case rel => exact ⟨_, (false), (by first | rfl | (simp; done) | (simp [*]; done)), H', ⟨by have := HJ3.out; first | omega | exact Nat.le_refl _⟩, ⟨by repeat (first | (with_reducible first | exact HB.out | apply below_alloc | apply pw_below_drewN | apply below_drew1) | exact HB.out)⟩⟩
            · rw [if_neg c15] at H
              have c15b0 : (t115.toList == ([91] : List UInt8)) = false := beq_eq_false_iff_ne.mpr c15
              have c15b1 : (t115.toList != ([91] : List UInt8)) = true := bne_iff_ne.mpr c15
              have H' := Aside0.mk H
              clear H
              go_wp2
              go_meet
              case rel => exact ⟨_, ((t115.toList != ([79] : List UInt8))), (by first | rfl | (simp; done) | (simp [*]; done)), H', ⟨by have := HJ3.out; first | omega | exact Nat.le_refl _⟩, ⟨by repeat (first | (with_reducible first | exact HB.out | apply below_alloc | apply pw_below_drewN | apply below_drew1) | exact HB.out)⟩⟩
        case rest =>
          clear HC12
          try clear c1
          try clear c2
          try clear p2
          try clear c3
          try clear c5
          try clear c7
          try clear c7b0
          try clear c8
          try clear c8b0
          try clear c9
          try clear c10
          try clear c10b0
          try clear c10b1
          try clear c14
          try clear c14b0
          try clear c14b1
          try clear c15
          try clear c15b0
          try clear c15b1
          try clear p2
          obtain ⟨kq, x28_11, rfl, HA, HJ11, HB⟩ := hcut
          cases kq with
          | zero => exact absurd HA.out (by simp [keys_escaped.j1])
          | succ kj11 =>
            have H := HA.out
            clear HA
            simp only [keys_escaped.j1] at H
            by_cases c16 : x28_11 = true
            · subst c16
              have H1 : (if 2 + t115.size ≤ 9223372036854775807 then (some ((⟨#[77, 45]⟩ : ByteArray) ++ t115, wrap64 (1 + (t115.size : Int)))) else (none)) = some (r1, r2) := by rw [if_pos rfl] at H; exact H
              clear H
              have H := H1
              clear H1
              by_cases c17 : 2 + t115.size ≤ 9223372036854775807
              · rw [if_pos c17] at H
                have c17b0 := eq_true c17
                have c17b1 : decide (2 + t115.size ≤ 9223372036854775807) = true := decide_eq_true c17
                try have c17b2 : (9223372036854775807 < 2 + t115.size) = False := eq_false (Nat.not_lt.2 c17)
                have hwz_ : wrap64 (1 + (t115.size : Int)) = 1 + (t115.size : Int) := by unfold wrap64; omega
                rw [hwz_] at H
                clear hwz_
                simp only [Option.some.injEq, Prod.mk.injEq] at H
                obtain ⟨rfl, rfl⟩ := H
                go_wp2
                go_ret2
                exact ⟨by first | rfl | (simp [errW_none, errW_some] <;> rfl) | (simp [*, errW_none, errW_some] <;> rfl), by repeat (first | (with_reducible first | exact HB.out | apply below_alloc | apply pw_below_drewN | apply below_drew1) | exact HB.out)⟩
              · rw [if_neg c17] at H
                exact absurd H (by simp)
            · replace c16 := Bool.eq_false_iff.mpr c16
              subst c16
              have H1 : ((keys_short.f kj11 (a0.extract 1 a0.size)).bind fun t116 => (if t116 = true then (if a1 = true then (some ((⟨#[69, 115, 99]⟩ : ByteArray), 1)) else (some ((⟨#[]⟩ : ByteArray), 0))) else (some ((⟨#[69, 115, 99]⟩ : ByteArray), 1)))) = some (r1, r2) := by rw [if_neg (show ¬ (false = true) by decide)] at H; exact H
              clear H
              have H := H1
              clear H1
              replace H := Option.bind_eq_some_iff.mp H
              obtain ⟨t116, A180, H⟩ := H
              replace H : (if t116 = true then (if a1 = true then (some ((⟨#[69, 115, 99]⟩ : ByteArray), 1)) else (some ((⟨#[]⟩ : ByteArray), 0))) else (some ((⟨#[69, 115, 99]⟩ : ByteArray), 1))) = some (r1, r2) := H
              have A18 := Aside0.mk A180
              clear A180
              by_cases c19 : t116 = true
              · subst c19
                have H1 : (if a1 = true then (some ((⟨#[69, 115, 99]⟩ : ByteArray), 1)) else (some ((⟨#[]⟩ : ByteArray), 0))) = some (r1, r2) := by rw [if_pos rfl] at H; exact H
                clear H
                have H := H1
                clear H1
                by_cases c20 : a1 = true
                · subst c20
                  have H1 : (some ((⟨#[69, 115, 99]⟩ : ByteArray), 1)) = some (r1, r2) := by rw [if_pos rfl] at H; exact H
                  clear H
                  have H := H1
                  clear H1
                  simp only [Option.some.injEq, Prod.mk.injEq] at H
                  obtain ⟨rfl, rfl⟩ := H
                  go_wp2_with (first | ((with_reducible refine gate_callee (f := 35) rfl ?_); refine goesL_ (some 46) rfl rfl Tryd.func35 (by kernel_rfl) rfl #[.string (a0.extract 1 a0.size)] rfl (by (try simp only [List.map_toArray, List.map_cons, List.map_nil]); first | done | rfl | (simp only [List.length_drop, List.length_take]; rfl)) ?_; (with_reducible refine (keys_short.calls kj11 (a0.extract 1 a0.size) true _ A18.out).mono ?_); rintro e w21 ⟨rfl, hb⟩; refine ⟨_, rfl, ?_⟩; have n0_ := Aside0.mk (below_step (by repeat (first | (with_reducible first | exact HB.out | apply below_alloc | apply pw_below_drewN | apply below_drew1) | exact HB.out)) hb); clear HB; have HB := n0_; clear n0_; (try clear hb); (try clear hb2); (try clear hk); (try clear hi)))
                  go_ret2
                  exact ⟨by first | rfl | (simp [errW_none, errW_some] <;> rfl) | (simp [*, errW_none, errW_some] <;> rfl), by repeat (first | (with_reducible first | exact HB.out | apply below_alloc | apply pw_below_drewN | apply below_drew1) | exact HB.out)⟩
                · replace c20 := Bool.eq_false_iff.mpr c20
                  subst c20
                  have H1 : (some ((⟨#[]⟩ : ByteArray), 0)) = some (r1, r2) := by rw [if_neg (show ¬ (false = true) by decide)] at H; exact H
                  clear H
                  have H := H1
                  clear H1
                  simp only [Option.some.injEq, Prod.mk.injEq] at H
                  obtain ⟨rfl, rfl⟩ := H
                  go_wp2_with (first | ((with_reducible refine gate_callee (f := 35) rfl ?_); refine goesL_ (some 46) rfl rfl Tryd.func35 (by kernel_rfl) rfl #[.string (a0.extract 1 a0.size)] rfl (by (try simp only [List.map_toArray, List.map_cons, List.map_nil]); first | done | rfl | (simp only [List.length_drop, List.length_take]; rfl)) ?_; (with_reducible refine (keys_short.calls kj11 (a0.extract 1 a0.size) true _ A18.out).mono ?_); rintro e w22 ⟨rfl, hb⟩; refine ⟨_, rfl, ?_⟩; have n0_ := Aside0.mk (below_step (by repeat (first | (with_reducible first | exact HB.out | apply below_alloc | apply pw_below_drewN | apply below_drew1) | exact HB.out)) hb); clear HB; have HB := n0_; clear n0_; (try clear hb); (try clear hb2); (try clear hk); (try clear hi)))
                  go_ret2
                  exact ⟨by first | rfl | (simp [errW_none, errW_some] <;> rfl) | (simp [*, errW_none, errW_some] <;> rfl), by repeat (first | (with_reducible first | exact HB.out | apply below_alloc | apply pw_below_drewN | apply below_drew1) | exact HB.out)⟩
              · replace c19 := Bool.eq_false_iff.mpr c19
                subst c19
                have H1 : (some ((⟨#[69, 115, 99]⟩ : ByteArray), 1)) = some (r1, r2) := by rw [if_neg (show ¬ (false = true) by decide)] at H; exact H
                clear H
                have H := H1
                clear H1
                simp only [Option.some.injEq, Prod.mk.injEq] at H
                obtain ⟨rfl, rfl⟩ := H
                go_wp2_with (first | ((with_reducible refine gate_callee (f := 35) rfl ?_); refine goesL_ (some 46) rfl rfl Tryd.func35 (by kernel_rfl) rfl #[.string (a0.extract 1 a0.size)] rfl (by (try simp only [List.map_toArray, List.map_cons, List.map_nil]); first | done | rfl | (simp only [List.length_drop, List.length_take]; rfl)) ?_; (with_reducible refine (keys_short.calls kj11 (a0.extract 1 a0.size) false _ A18.out).mono ?_); rintro e w23 ⟨rfl, hb⟩; refine ⟨_, rfl, ?_⟩; have n0_ := Aside0.mk (below_step (by repeat (first | (with_reducible first | exact HB.out | apply below_alloc | apply pw_below_drewN | apply below_drew1) | exact HB.out)) hb); clear HB; have HB := n0_; clear n0_; (try clear hb); (try clear hb2); (try clear hk); (try clear hi)))
                go_ret2
                exact ⟨by first | rfl | (simp [errW_none, errW_some] <;> rfl) | (simp [*, errW_none, errW_some] <;> rfl), by repeat (first | (with_reducible first | exact HB.out | apply below_alloc | apply pw_below_drewN | apply below_drew1) | exact HB.out)⟩
      · rw [if_neg c10] at H
        exact absurd H (by simp)
end Go.Proofs.YtbnpcnpdeinacaaDoor.P
end
section
namespace Go.Proofs.YtbnpcnpdeinacaaDoor
open Go.RowKit Go.Lib Go.Proofs.YtbnpcnpdeinacaaDoorW.PrintWords Go.Proofs.YtbnpcnpdeinacaaDoorW.PrintLast Go.Proofs.YtbnpcnpdeinacaaDoorW.PrintMore Go.Proofs.YtbnpcnpdeinacaaDoor.P
set_option linter.unusedVariables false
/-- How much First tells. -/
theorem firstL_len (l : List UInt8) : ((firstL l).2.2 = 2 ∧ (firstL l).2.1 = 0 ∧ l.length ≤ 3) ∨ (((firstL l).2.2 = 0 ∨ (firstL l).2.2 = 4) ∧ 1 ≤ (firstL l).2.1 ∧ (firstL l).2.1 ≤ (l.length : Int) ∧ (firstL l).2.1 ≤ 4) := by
  unfold firstL
  repeat' split
  all_goals first
    | (left; refine ⟨rfl, rfl, ?_⟩; omega)
    | (right; refine ⟨by first | (left; rfl) | (right; rfl), ?_, ?_, ?_⟩ <;> simp only <;> omega)
def letterL (l : List UInt8) : List UInt8 := if (firstL l).2.2 = 0 then (if widthZ (firstL l).1 < 0 then [] else l.take (firstL l).2.1.toNat) else []
def shortL (l : List UInt8) : Bool := decide (l ≠ []) && ((firstL l).2.2 == 2)
def isPar (b : Nat) : Bool := decide ((48 ≤ b ∧ b ≤ 57) ∨ b = 59)
theorem isPar_iff (b : Nat) : isPar b = true ↔ ((48 ≤ b ∧ b ≤ 57) ∨ b = 59) := decide_eq_true_iff
def ctlL : Nat → List UInt8 → Nat → Int
  | 0, _, _ => -1
  | d + 1, l, i => if i < l.length then (if isPar (g l i) = true then (if i = 10 then 0 else ctlL d l (i + 1)) else (i : Int) + 1) else -1
def controlL (l : List UInt8) : Int := ctlL 9 l 2
def escapedL (s : List UInt8) (final : Bool) : List UInt8 × Nat :=
  if Lib.hasPrefix s [27, 91] = true ∧ 0 < controlL s then ([63], (controlL s).toNat)
  else if Lib.hasPrefix s [27, 91] = true ∧ controlL s < 0 ∧ final = false then ([], 0)
  else if letterL (s.drop 1) ≠ [] ∧ letterL (s.drop 1) ≠ [91] ∧ letterL (s.drop 1) ≠ [79] then ([77, 45] ++ letterL (s.drop 1), 1 + (letterL (s.drop 1)).length)
  else if shortL (s.drop 1) = true ∧ final = false then ([], 0)
  else ([69, 115, 99], 1)
def ba (l : List UInt8) : ByteArray := ⟨⟨l⟩⟩
theorem ba_data (l : List UInt8) : (ba l).data.toList = l := rfl
theorem ba_ext (a b : ByteArray) (h : a.data.toList = b.data.toList) : a = b := ByteArray.ext (Array.ext' h)
theorem ba_eq (s : ByteArray) (l : List UInt8) (h : s.data.toList = l) : s = ba l := ba_ext _ _ h
theorem ba_size (l : List UInt8) : (ba l).size = l.length := rfl
theorem size_len (s : ByteArray) : s.size = s.data.toList.length := by rw [Array.length_toList]; rfl
theorem letter_go (s : ByteArray) (k : Nat) (hk : 6 ≤ k) : keys_letter.f k s = some (ba (letterL s.data.toList)) := by
  unfold keys_letter.f letterL
  rw [first_go s k hk, Option.bind_some]
  by_cases h0 : (firstL s.data.toList).2.2 = 0
  · rw [if_pos h0, if_pos h0]
    show ((some (widthZ (firstL s.data.toList).1)).bind _) = _
    rw [Option.bind_some]
    by_cases hw : widthZ (firstL s.data.toList).1 < 0
    · rw [if_pos hw, if_pos hw]; rfl
    · rcases firstL_len s.data.toList with ⟨h, _⟩ | ⟨_, h1, h2, _⟩
      · omega
      rw [if_neg hw, if_neg hw, if_pos (by omega), if_pos (by rw [size_len]; exact h2)]
      congr 1
      exact ba_eq _ _ (by rw [toList_extract, List.drop_zero, Nat.sub_zero])
  · rw [if_neg h0, if_neg h0]; rfl
theorem short_go (s : ByteArray) (k : Nat) (hk : 6 ≤ k) : keys_short.f k s = some (shortL s.data.toList) := by
  unfold keys_short.f shortL
  rw [first_go s k hk, Option.bind_some, Lib.toList_data]
  by_cases h : s.data.toList = []
  · rw [if_pos h, h]; rfl
  · rw [if_neg h]; simp [h]
theorem bt_gK (s : ByteArray) (j : Nat) (h : j < s.data.toList.length) : bt s (j : Int) = (g s.data.toList j : Int) := by
  unfold bt g
  rw [Int.toNat_natCast, List.getD_eq_getElem?_getD, List.getElem?_eq_getElem h]
  have hs : j < s.size := by rw [size_len]; exact h
  first
    | (simp; done)
    | (rw [← get!_getD]; rfl)
    | (simp [hs]; rfl)
theorem ctl_step (s : ByteArray) (k i : Nat) (hi : i ≤ 10) : keys_control.l0 (k + 1 + 1) s (i : Int) =
    if i < s.data.toList.length then (if isPar (g s.data.toList i) = true then (if i = 10 then some 0 else keys_control.l0 k s ((i + 1 : Nat) : Int)) else some ((i : Int) + 1)) else (if s.data.toList.length > 10 then some 0 else some (-1)) := by
  simp only [keys_control.l0, keys_control.j1]
  rw [← size_len]
  by_cases h : i < s.data.toList.length
  · rw [size_len]
    rw [if_pos (by omega), if_pos (by omega), if_pos h, bt_gK s i h]
    have hw : wrap64 ((i : Int) + 1) = (i : Int) + 1 := by unfold wrap64; omega
    rw [hw]
    by_cases h48 : (g s.data.toList i : Int) < 48
    · rw [if_pos h48]
      by_cases h59 : (g s.data.toList i : Int) = 59
      · omega
      · rw [if_neg (show ¬ (isPar (g s.data.toList i) = true) by rw [isPar_iff]; omega), if_pos (by rw [bne_iff_ne]; exact h59)]
    · rw [if_neg h48]
      by_cases h57 : (g s.data.toList i : Int) > 57
      · rw [if_pos h57]
        by_cases h59 : (g s.data.toList i : Int) = 59
        · rw [if_pos (show isPar (g s.data.toList i) = true by rw [isPar_iff]; omega), if_neg (by simp [h59])]
          by_cases h10 : i = 10
          · rw [if_pos h10, if_pos (by omega)]
          · rw [if_neg h10, if_neg (by omega)]; rfl
        · rw [if_neg (show ¬ (isPar (g s.data.toList i) = true) by rw [isPar_iff]; omega), if_pos (by rw [bne_iff_ne]; exact h59)]
      · rw [if_neg h57, if_neg (by decide), if_pos (show isPar (g s.data.toList i) = true by rw [isPar_iff]; omega)]
        by_cases h10 : i = 10
        · rw [if_pos h10, if_pos (by omega)]
        · rw [if_neg h10, if_neg (by omega)]; rfl
  · rw [size_len, if_neg (by omega), if_neg h]
    by_cases h10 : s.data.toList.length > 10
    · rw [if_pos h10, if_pos (by omega)]
    · rw [if_neg h10, if_neg (by omega)]
theorem ctl_go (s : ByteArray) : ∀ (d i k : Nat), i + d = 11 → 2 ≤ i → 1 ≤ d → 2 * d ≤ k → keys_control.l0 k s (i : Int) = some (ctlL d s.data.toList i) := by
  intro d
  induction d with
  | zero => intro i k _ _ h; omega
  | succ d ih =>
    intro i k hi h2 _ hk
    obtain ⟨k, rfl⟩ : ∃ m, k = m + 1 + 1 := ⟨k - 2, by omega⟩
    rw [ctl_step s k i (by omega)]
    unfold ctlL
    by_cases h : i < s.data.toList.length
    · rw [if_pos h, if_pos h]
      by_cases hp : isPar (g s.data.toList i) = true
      · rw [if_pos hp, if_pos hp]
        by_cases h10 : i = 10
        · rw [if_pos h10, if_pos h10]
        · rw [if_neg h10, if_neg h10]
          exact ih (i + 1) k (by omega) (by omega) (by omega) (by omega)
      · rw [if_neg hp, if_neg hp]
    · rw [if_neg h, if_neg h, if_neg (by omega)]
theorem control_go (s : ByteArray) (k : Nat) (hk : 20 ≤ k) : keys_control.f k s = some (controlL s.data.toList) := by
  unfold keys_control.f controlL
  exact ctl_go s 9 2 k (by omega) (by omega) (by omega) (by omega)
end Go.Proofs.YtbnpcnpdeinacaaDoor
end
