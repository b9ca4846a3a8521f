-- A copy of the text YtbnpcnpdeinacaaDoorMRef with what this claim does not reach left out (prune.py, a program of this project).
import Derived.Test.YtbnpcnpdeinacaaDoorZkMK1
import Derived.Test.YtbnpcnpdeinacaaDoorZkPx4
namespace Go.Proofs.YtbnpcnpdeinacaaDoor
open Go.RowKit Go.Lib Go.Proofs.YtbnpcnpdeinacaaDoorW.PrintWords Go.Proofs.YtbnpcnpdeinacaaDoorW.PrintLast Go.Proofs.YtbnpcnpdeinacaaDoor.P
theorem bt_g (s : ByteArray) (j : Nat) : bt s (j : Int) = (g s.data.toList j : Int) := by
  unfold bt g
  by_cases h : j < s.size
  · rw [dif_pos (by simpa using h)]
    rw [List.getD_eq_getElem?_getD, List.getElem?_eq_getElem (by rw [len_size]; exact h)]
    rfl
  · rw [dif_neg (by simpa using h)]
    rw [List.getD_eq_getElem?_getD, List.getElem?_eq_none (by rw [len_size]; omega)]
    rfl
theorem w32 {i : Int} (h0 : -1000000000 ≤ i) (h1 : i ≤ 1000000000) : wrap32 i = i := by unfold wrap32; omega
theorem v_step (s : ByteArray) (k i : Nat) (r : Int) (h1 : 1 ≤ i) (hi : i < s.size) (hs : s.size ≤ 4) (hr0 : 0 ≤ r) (hr1 : r ≤ 100000) (hc : 128 ≤ g s.data.toList i) (hc2 : g s.data.toList i ≤ 191) :
    backseatref01_value.l0 (k + 1) s r (i : Int) = backseatref01_value.l0 k s (64 * r + (g s.data.toList i : Int) - 128) ((i + 1 : Nat) : Int) := by
  simp only [backseatref01_value.l0]
  rw [if_pos (by omega), if_pos (by omega), if_neg (by omega), bt_g, w32 (by omega) (by omega), if_neg (by omega), if_neg (by omega), w32 (i := 64 * r) (by omega) (by omega), w32 (i := 64 * r + _) (by omega) (by omega), w32 (by omega) (by omega), w64 (by omega) (by omega)]
  rfl
theorem v_end (s : ByteArray) (k i : Nat) (r : Int) (hi : s.size ≤ i) : backseatref01_value.l0 (k + 1) s r (i : Int) = some r := by
  simp only [backseatref01_value.l0]
  rw [if_neg (by omega)]
def headZ (n : Nat) : Int := if n = 2 then 192 else if n = 3 then 224 else 240
theorem v_start (s : ByteArray) (k : Nat) (h2 : 2 ≤ s.size) (h4 : s.size ≤ 4) :
    backseatref01_value.f (k + 1) s = backseatref01_value.l0 k s ((g s.data.toList 0 : Int) - headZ s.size) 1 := by
  have hg := g_lt s.data.toList 0
  have hb := bt_g s 0
  rw [show ((0 : Nat) : Int) = 0 from rfl] at hb
  unfold backseatref01_value.f
  simp only [backseatref01_value.l0]
  rw [if_pos (by omega), if_pos (by omega), if_pos trivial, hb]
  simp only [Option.bind_some, List.length_cons, List.length_nil]
  rw [if_pos (by omega), if_pos (by omega), if_neg (by omega), w32 (i := (g s.data.toList 0 : Int)) (by omega) (by omega)]
  have e : rd [0, 0, 192, 224, 240] (s.size : Int) = headZ s.size := by
    have : s.size = 2 ∨ s.size = 3 ∨ s.size = 4 := by omega
    rcases this with h | h | h <;> rw [h] <;> decide
  rw [e]
  have hh : 192 ≤ headZ s.size ∧ headZ s.size ≤ 240 := by unfold headZ; split <;> (try split) <;> omega
  rw [w32 (by omega) (by omega), w64 (by omega) (by omega)]
  rfl
theorem v_one (s : ByteArray) (k : Nat) (h : s.size = 1) : backseatref01_value.f (k + 1) s = some (g s.data.toList 0 : Int) := by
  have hg := g_lt s.data.toList 0
  have hb := bt_g s 0
  rw [show ((0 : Nat) : Int) = 0 from rfl] at hb
  unfold backseatref01_value.f
  simp only [backseatref01_value.l0]
  rw [if_pos (by omega), if_pos (by omega), if_pos trivial, hb]
  simp only [Option.bind_some, List.length_cons, List.length_nil]
  rw [if_pos (by omega), if_pos (by omega), if_pos (by omega), w32 (i := (g s.data.toList 0 : Int)) (by omega) (by omega)]
theorem v_two (s : ByteArray) (k : Nat) (hk : 6 ≤ k) (h : s.size = 2) (h0 : 192 ≤ g s.data.toList 0) (h1 : 128 ≤ g s.data.toList 1) (h1' : g s.data.toList 1 ≤ 191) :
    backseatref01_value.f k s = some (64 * ((g s.data.toList 0 : Int) - 192) + (g s.data.toList 1 : Int) - 128) := by
  obtain ⟨k, rfl⟩ : ∃ m, k = m + 6 := ⟨k - 6, by omega⟩
  have hg := g_lt s.data.toList 0
  rw [v_start s (k + 5) (by omega) (by omega)]
  have e : headZ s.size = 192 := by rw [h]; rfl
  rw [e, show (1 : Int) = ((1 : Nat) : Int) from rfl, v_step s (k + 4) 1 _ (by omega) (by omega) (by omega) (by omega) (by omega) h1 h1', v_end s (k + 3) _ _ (by omega)]
theorem v_three (s : ByteArray) (k : Nat) (hk : 6 ≤ k) (h : s.size = 3) (h0 : 224 ≤ g s.data.toList 0) (h1 : 128 ≤ g s.data.toList 1) (h1' : g s.data.toList 1 ≤ 191) (h2 : 128 ≤ g s.data.toList 2) (h2' : g s.data.toList 2 ≤ 191) :
    backseatref01_value.f k s = some (64 * (64 * ((g s.data.toList 0 : Int) - 224) + (g s.data.toList 1 : Int) - 128) + (g s.data.toList 2 : Int) - 128) := by
  obtain ⟨k, rfl⟩ : ∃ m, k = m + 6 := ⟨k - 6, by omega⟩
  have hg := g_lt s.data.toList 0
  rw [v_start s (k + 5) (by omega) (by omega)]
  have e : headZ s.size = 224 := by rw [h]; rfl
  rw [e, show (1 : Int) = ((1 : Nat) : Int) from rfl, v_step s (k + 4) 1 _ (by omega) (by omega) (by omega) (by omega) (by omega) h1 h1', v_step s (k + 3) 2 _ (by omega) (by omega) (by omega) (by omega) (by omega) h2 h2', v_end s (k + 2) _ _ (by omega)]
theorem v_four (s : ByteArray) (k : Nat) (hk : 6 ≤ k) (h : s.size = 4) (h0 : 240 ≤ g s.data.toList 0) (h1 : 128 ≤ g s.data.toList 1) (h1' : g s.data.toList 1 ≤ 191) (h2 : 128 ≤ g s.data.toList 2) (h2' : g s.data.toList 2 ≤ 191) (h3 : 128 ≤ g s.data.toList 3) (h3' : g s.data.toList 3 ≤ 191) :
    backseatref01_value.f k s = some (64 * (64 * (64 * ((g s.data.toList 0 : Int) - 240) + (g s.data.toList 1 : Int) - 128) + (g s.data.toList 2 : Int) - 128) + (g s.data.toList 3 : Int) - 128) := by
  obtain ⟨k, rfl⟩ : ∃ m, k = m + 6 := ⟨k - 6, by omega⟩
  have hg := g_lt s.data.toList 0
  rw [v_start s (k + 5) (by omega) (by omega)]
  have e : headZ s.size = 240 := by rw [h]; rfl
  rw [e, show (1 : Int) = ((1 : Nat) : Int) from rfl, v_step s (k + 4) 1 _ (by omega) (by omega) (by omega) (by omega) (by omega) h1 h1', v_step s (k + 3) 2 _ (by omega) (by omega) (by omega) (by omega) (by omega) h2 h2', v_step s (k + 2) 3 _ (by omega) (by omega) (by omega) (by omega) (by omega) h3 h3', v_end s (k + 1) _ _ (by omega)]
theorem ofNat_toNat (b : UInt8) : UInt8.ofNat ((b.toNat : Int)).toNat = b := by simp
theorem pad_list (s : ByteArray) (n : Nat) (c : Int) : (padB s n c).data.toList = s.data.toList ++ List.replicate (n - s.size) (UInt8.ofNat c.toNat) := by
  unfold padB bytesOf
  rw [strOfNums_data, List.map_append, List.map_map, List.map_replicate]
  congr 1
  exact (List.map_congr_left (fun b _ => ofNat_toNat b)).trans (List.map_id _)
theorem pad_size (s : ByteArray) (n : Nat) (c : Int) (h : s.size ≤ n) : (padB s n c).size = n := by
  rw [← len_size, pad_list, List.length_append, List.length_replicate, len_size]; omega
theorem g_pad_in (s : ByteArray) (n : Nat) (c : Int) (i : Nat) (h : i < s.size) : g (padB s n c).data.toList i = g s.data.toList i := by
  unfold g
  rw [pad_list, List.getD_eq_getElem?_getD, List.getElem?_append_left (by rw [len_size]; exact h), ← List.getD_eq_getElem?_getD]
theorem g_pad_out (s : ByteArray) (n : Nat) (c : Nat) (hc : c < 256) (i : Nat) (h : s.size ≤ i) (hi : i < n) : g (padB s n (c : Int)).data.toList i = c := by
  unfold g
  rw [pad_list, List.getD_eq_getElem?_getD, List.getElem?_append_right (by rw [len_size]; exact h), len_size, List.getElem?_replicate, if_pos (by omega)]
  simp
  omega
theorem contFrom_iff (s : ByteArray) : contFrom s 1 = true ↔ ∀ i, 1 ≤ i → i < s.size → 128 ≤ g s.data.toList i ∧ g s.data.toList i ≤ 191 := by
  simp only [contFrom, List.all_eq_true, List.mem_range, Bool.and_eq_true, Bool.or_eq_true, decide_eq_true_eq]
  constructor
  · intro h i h1 h2
    have := h i h2
    rw [bt_g] at this
    omega
  · intro h i hi
    rw [bt_g]
    by_cases h1 : 1 ≤ i
    · have := h i h1 hi; omega
    · omega
theorem lo_hi (b : Nat) (hb : b < 256) (h : szN b = 2 ∨ szN b = 3 ∨ szN b = 4) (h128 : 128 ≤ b) :
    (szN b = 2 ∧ 194 ≤ b ∧ b < 224 ∧ loN b = 128 ∧ hiN b = 191) ∨ (szN b = 3 ∧ b = 224 ∧ loN b = 160 ∧ hiN b = 191) ∨ (szN b = 3 ∧ (225 ≤ b ∧ b < 237 ∨ 238 ≤ b ∧ b < 240) ∧ loN b = 128 ∧ hiN b = 191) ∨
    (szN b = 3 ∧ b = 237 ∧ loN b = 128 ∧ hiN b = 159) ∨ (szN b = 4 ∧ b = 240 ∧ loN b = 144 ∧ hiN b = 191) ∨ (szN b = 4 ∧ 241 ≤ b ∧ b < 244 ∧ loN b = 128 ∧ hiN b = 191) ∨ (szN b = 4 ∧ b = 244 ∧ loN b = 128 ∧ hiN b = 143) := by
  unfold szN loN hiN at *
  rcases lead_cases b hb with ⟨hb, hf⟩ | ⟨hb, hf⟩ | ⟨hb, hb', hf⟩ | ⟨hb, hf⟩ | ⟨hb, hf⟩ | ⟨hb, hf⟩ | ⟨hb, hf⟩ | ⟨hb, hb', hf⟩ | ⟨hb, hf⟩ <;> rw [hf] at h ⊢ <;> simp [accLo, accHi] at h ⊢ <;> omega
theorem begins_ok (s : ByteArray) (n : Nat) (hn : n = 2 ∨ n = 3 ∨ n = 4) (h2 : 2 ≤ s.size) (hs : s.size ≤ n) (h128 : 128 ≤ g s.data.toList 0) (hb : szN (g s.data.toList 0) = n) :
    backseatref01_begins.f s (n : Int) = some (decide (loN (g s.data.toList 0) ≤ g s.data.toList 1 ∧ g s.data.toList 1 ≤ hiN (g s.data.toList 0) ∧ (3 ≤ s.size → 128 ≤ g s.data.toList 2 ∧ g s.data.toList 2 ≤ 191) ∧ (4 ≤ s.size → 128 ≤ g s.data.toList 3 ∧ g s.data.toList 3 ≤ 191))) := by
  have hg := g_lt s.data.toList 0
  have hc := lo_hi _ hg (by rw [hb]; exact hn) h128
  unfold backseatref01_begins.f
  rw [if_pos (by omega), if_neg (by omega)]
  by_cases hcf : contFrom s 1 = true
  · have hcc := (contFrom_iff s).mp hcf
    rw [if_neg (by rw [hcf]; simp), show ((n : Int)).toNat = n by omega]
    have z1 := hcc 1 (by omega) (by omega)
    have z2 := fun h => hcc 2 (by omega) h
    have z3 := fun h => hcc 3 (by omega) h
    have pl : ∀ i, 1 ≤ i → i < n → g (padB s n 128).data.toList i = if i < s.size then g s.data.toList i else 128 := by
      intro i h1 hi
      by_cases h : i < s.size
      · rw [if_pos h]; exact g_pad_in s n 128 i h
      · rw [if_neg h]; exact g_pad_out s n 128 (by omega) i (by omega) hi
    have ph : ∀ i, 1 ≤ i → i < n → g (padB s n 191).data.toList i = if i < s.size then g s.data.toList i else 191 := by
      intro i h1 hi
      by_cases h : i < s.size
      · rw [if_pos h]; exact g_pad_in s n 191 i h
      · rw [if_neg h]; exact g_pad_out s n 191 (by omega) i (by omega) hi
    have l0 := g_pad_in s n 128 0 (by omega)
    have h0 := g_pad_in s n 191 0 (by omega)
    have sl := pad_size s n 128 hs
    have sh := pad_size s n 191 hs
    generalize padB s n 128 = P at pl l0 sl ⊢
    generalize padB s n 191 = Q at ph h0 sh ⊢
    rcases hn with rfl | rfl | rfl
    · have p1 := pl 1 (by omega) (by omega)
      have q1 := ph 1 (by omega) (by omega)
      rw [if_pos (by omega)] at p1 q1
      rw [v_two P 10 (by omega) sl (by omega) (by omega) (by omega), v_two Q 10 (by omega) sh (by omega) (by omega) (by omega)]
      simp only [Option.bind_some, endsB, show floorZ ((2 : Nat) : Int) = 128 by decide]
      rw [l0, h0, p1, q1]
      congr 1
      rw [Bool.eq_iff_iff]
      simp only [Bool.and_eq_true, Bool.not_eq_true', Bool.or_eq_true, Bool.or_eq_false_iff, decide_eq_true_eq, decide_eq_false_iff_not]
      omega
    · have p1 := pl 1 (by omega) (by omega)
      have q1 := ph 1 (by omega) (by omega)
      rw [if_pos (by omega)] at p1 q1
      have p2 := pl 2 (by omega) (by omega)
      have q2 := ph 2 (by omega) (by omega)
      have e2 : (2 < s.size ∧ g P.data.toList 2 = g s.data.toList 2 ∧ g Q.data.toList 2 = g s.data.toList 2) ∨ (¬ 2 < s.size ∧ g P.data.toList 2 = 128 ∧ g Q.data.toList 2 = 191) := by
        by_cases h : 2 < s.size
        · rw [if_pos h] at p2 q2; exact .inl ⟨h, p2, q2⟩
        · rw [if_neg h] at p2 q2; exact .inr ⟨h, p2, q2⟩
      rw [v_three P 10 (by omega) sl (by omega) (by omega) (by omega) (by omega) (by omega), v_three Q 10 (by omega) sh (by omega) (by omega) (by omega) (by omega) (by omega)]
      simp only [Option.bind_some, endsB, show floorZ ((3 : Nat) : Int) = 2048 by decide]
      rw [l0, h0, p1, q1]
      congr 1
      rw [Bool.eq_iff_iff]
      simp only [Bool.and_eq_true, Bool.not_eq_true', Bool.or_eq_true, Bool.or_eq_false_iff, decide_eq_true_eq, decide_eq_false_iff_not]
      clear pl ph p2 q2 hcc
      omega
    · have p1 := pl 1 (by omega) (by omega)
      have q1 := ph 1 (by omega) (by omega)
      rw [if_pos (by omega)] at p1 q1
      have p2 := pl 2 (by omega) (by omega)
      have q2 := ph 2 (by omega) (by omega)
      have e2 : (2 < s.size ∧ g P.data.toList 2 = g s.data.toList 2 ∧ g Q.data.toList 2 = g s.data.toList 2) ∨ (¬ 2 < s.size ∧ g P.data.toList 2 = 128 ∧ g Q.data.toList 2 = 191) := by
        by_cases h : 2 < s.size
        · rw [if_pos h] at p2 q2; exact .inl ⟨h, p2, q2⟩
        · rw [if_neg h] at p2 q2; exact .inr ⟨h, p2, q2⟩
      have p3 := pl 3 (by omega) (by omega)
      have q3 := ph 3 (by omega) (by omega)
      have e3 : (3 < s.size ∧ g P.data.toList 3 = g s.data.toList 3 ∧ g Q.data.toList 3 = g s.data.toList 3) ∨ (¬ 3 < s.size ∧ g P.data.toList 3 = 128 ∧ g Q.data.toList 3 = 191) := by
        by_cases h : 3 < s.size
        · rw [if_pos h] at p3 q3; exact .inl ⟨h, p3, q3⟩
        · rw [if_neg h] at p3 q3; exact .inr ⟨h, p3, q3⟩
      rw [v_four P 10 (by omega) sl (by omega) (by omega) (by omega) (by omega) (by omega) (by omega) (by omega), v_four Q 10 (by omega) sh (by omega) (by omega) (by omega) (by omega) (by omega) (by omega) (by omega)]
      simp only [Option.bind_some, endsB, show floorZ ((4 : Nat) : Int) = 65536 by decide]
      rw [l0, h0, p1, q1]
      congr 1
      rw [Bool.eq_iff_iff]
      simp only [Bool.and_eq_true, Bool.not_eq_true', Bool.or_eq_true, Bool.or_eq_false_iff, decide_eq_true_eq, decide_eq_false_iff_not]
      clear pl ph p2 q2 p3 q3 hcc
      omega
  · have hcf' : contFrom s 1 = false := by simpa using hcf
    rw [if_pos hcf']
    congr 1
    symm
    rw [decide_eq_false_iff_not]
    intro hh
    apply hcf
    rw [contFrom_iff]
    intro i h1 hi
    have : i = 1 ∨ i = 2 ∨ i = 3 := by omega
    rcases this with rfl | rfl | rfl
    · omega
    · exact hh.2.2.1 (by omega)
    · exact hh.2.2.2 (by omega)
theorem nj1 (k : Nat) (x : Int) (b : Bool) : backseatref01_need.j1 (k + 1) x b = if b = true then some 3 else (if x ≥ 240 then (if x < 245 then some 4 else some 0) else some 0) := by simp only [backseatref01_need.j1]
theorem nj0 (k : Nat) (x : Int) (b : Bool) : backseatref01_need.j0 (k + 1 + 1) x b = if b = true then some 2 else (if x ≥ 224 then backseatref01_need.j1 (k + 1) x (decide (x < 240)) else backseatref01_need.j1 (k + 1) x false) := by simp only [backseatref01_need.j0]
theorem need_go (k : Nat) (hk : 2 ≤ k) (b : Nat) (hb : b < 256) : backseatref01_need.f k (b : Int) = some (if b < 128 then 1 else if szN b = 1 then 0 else (szN b : Int)) := by
  obtain ⟨k, rfl⟩ : ∃ m, k = m + 1 + 1 := ⟨k - 2, by omega⟩
  unfold backseatref01_need.f szN
  rcases lead_cases b hb with ⟨hb, hf⟩ | ⟨hb, hf⟩ | ⟨hb, hb', hf⟩ | ⟨hb, hf⟩ | ⟨hb, hf⟩ | ⟨hb, hf⟩ | ⟨hb, hf⟩ | ⟨hb, hb', hf⟩ | ⟨hb, hf⟩ <;> rw [hf]
  · rw [if_pos (by omega), if_pos hb]
  all_goals
    rw [nj0, nj0, nj1, nj1]
    simp only [decide_eq_true_eq, Bool.false_eq_true, if_false]
    repeat' split
    all_goals first | rfl | (exfalso; omega) | (exact absurd trivial ‹¬True›)
theorem size_extract (s : ByteArray) (j : Nat) (h : j ≤ s.size) : (s.extract 0 j).size = j := by
  rw [← len_size, toList_extract, List.drop_zero, List.length_take, len_size]; omega
theorem g_extract (s : ByteArray) (j i : Nat) (h : i < j) : g (s.extract 0 j).data.toList i = g s.data.toList i := by
  rw [toList_extract, List.drop_zero, Nat.sub_zero, g_take _ _ _ h]
theorem rj_step (s : ByteArray) (k n i : Nat) : backseatref01_First.j1 (k + 1) s (n : Int) (i : Int) =
    if i = n then (if n ≤ s.size then (backseatref01_value.f k (s.extract 0 n)).bind fun t => some (t, (n : Int), 0) else none) else if i = s.size then some (0, 0, 2) else some (0, (i : Int), 4) := by
  simp only [backseatref01_First.j1]
  by_cases h : i = n
  · rw [if_pos (by omega), if_pos h, if_pos (by omega)]
    by_cases h2 : n ≤ s.size
    · rw [if_pos (by omega), if_pos h2, show ((n : Int)).toNat = n by omega]
    · rw [if_neg (by omega), if_neg h2]
  · rw [if_neg (by omega), if_neg h]
    by_cases h2 : i = s.size
    · rw [if_pos (by omega), if_pos h2]
    · rw [if_neg (by omega), if_neg h2]
/-- May i + 1 bytes be the beginning of a letter's? -/
def okB (l : List UInt8) (i : Nat) : Bool := decide (loN (g l 0) ≤ g l 1 ∧ g l 1 ≤ hiN (g l 0) ∧ (3 ≤ i + 1 → 128 ≤ g l 2 ∧ g l 2 ≤ 191) ∧ (4 ≤ i + 1 → 128 ≤ g l 3 ∧ g l 3 ≤ 191))
theorem rl_step (s : ByteArray) (k n i : Nat) (hn : n = 2 ∨ n = 3 ∨ n = 4) (h1 : 1 ≤ i) (hi : i < n) (h128 : 128 ≤ g s.data.toList 0) (hb : szN (g s.data.toList 0) = n) : backseatref01_First.l0 (k + 1) s (n : Int) (i : Int) =
    if i < s.size then (if okB s.data.toList i = true then backseatref01_First.l0 k s (n : Int) ((i + 1 : Nat) : Int) else backseatref01_First.j1 k s (n : Int) (i : Int)) else backseatref01_First.j1 k s (n : Int) (i : Int) := by
  simp only [backseatref01_First.l0]
  rw [if_pos (by omega)]
  by_cases h : i < s.size
  · rw [if_pos (by omega), if_pos h, w64 (by omega) (by omega), if_pos (by omega), if_pos (by omega), show ((i : Int) + 1).toNat = i + 1 by omega]
    have hs := size_extract s (i + 1) (by omega)
    have e0 := g_extract s (i + 1) 0 (by omega)
    have e1 := g_extract s (i + 1) 1 (by omega)
    rw [begins_ok (s.extract 0 (i + 1)) n hn (by omega) (by omega) (by rw [e0]; exact h128) (by rw [e0]; exact hb)]
    simp only [Option.bind_some]
    have e : decide (loN (g (s.extract 0 (i + 1)).data.toList 0) ≤ g (s.extract 0 (i + 1)).data.toList 1 ∧ g (s.extract 0 (i + 1)).data.toList 1 ≤ hiN (g (s.extract 0 (i + 1)).data.toList 0) ∧ (3 ≤ (s.extract 0 (i + 1)).size → 128 ≤ g (s.extract 0 (i + 1)).data.toList 2 ∧ g (s.extract 0 (i + 1)).data.toList 2 ≤ 191) ∧ (4 ≤ (s.extract 0 (i + 1)).size → 128 ≤ g (s.extract 0 (i + 1)).data.toList 3 ∧ g (s.extract 0 (i + 1)).data.toList 3 ≤ 191)) = okB s.data.toList i := by
      unfold okB
      rw [hs, e0, e1, decide_eq_decide]
      constructor
      · rintro ⟨a, b, c, d⟩
        refine ⟨a, b, fun h => ?_, fun h => ?_⟩
        · have := c h; rwa [g_extract s (i + 1) 2 (by omega)] at this
        · have := d h; rwa [g_extract s (i + 1) 3 (by omega)] at this
      · rintro ⟨a, b, c, d⟩
        refine ⟨a, b, fun h => ?_, fun h => ?_⟩
        · rw [g_extract s (i + 1) 2 (by omega)]; exact c h
        · rw [g_extract s (i + 1) 3 (by omega)]; exact d h
    rw [e]
    rfl
  · rw [if_neg (by omega), if_neg h]
theorem rl_end (s : ByteArray) (k n : Nat) : backseatref01_First.l0 (k + 1) s (n : Int) (n : Int) = backseatref01_First.j1 k s (n : Int) (n : Int) := by
  simp only [backseatref01_First.l0]
  rw [if_neg (by omega)]
/-- The reference's First, at every string. -/
theorem ref_go (s : ByteArray) (k : Nat) (hk : 20 ≤ k) : backseatref01_First.f k s = some (firstL s.data.toList) := by
  obtain ⟨k, rfl⟩ : ∃ m, k = m + 20 := ⟨k - 20, by omega⟩
  have hl := len_size s
  unfold backseatref01_First.f
  by_cases hz : s.size = 0
  · rw [if_pos (by omega)]
    unfold firstL
    rw [hl, if_pos hz]
  rw [if_neg (by omega), if_pos (by omega)]
  have hb := bt_g s 0
  rw [show ((0 : Nat) : Int) = 0 from rfl] at hb
  have hg := g_lt s.data.toList 0
  rw [hb, need_go (k + 20) (by omega) _ hg]
  simp only [Option.bind_some]
  by_cases h128 : g s.data.toList 0 < 128
  · rw [if_pos h128, if_neg (by omega)]
    have e := rl_end s (k + 19) 1
    rw [show ((1 : Nat) : Int) = 1 from rfl] at e
    rw [e]
    have e2 := rj_step s (k + 18) 1 1
    rw [show ((1 : Nat) : Int) = 1 from rfl] at e2
    rw [e2, if_pos rfl, if_pos (by omega), v_one _ (k + 17) (size_extract s 1 (by omega)), g_extract s 1 0 (by omega)]
    unfold firstL
    rw [hl, if_neg hz, if_pos h128]
    rfl
  rw [if_neg h128]
  by_cases h1 : szN (g s.data.toList 0) = 1
  · rw [if_pos h1, if_pos rfl]
    unfold firstL
    rw [hl, if_neg hz, if_neg h128, if_pos h1]
  rw [if_neg h1]
  have hn : szN (g s.data.toList 0) = 2 ∨ szN (g s.data.toList 0) = 3 ∨ szN (g s.data.toList 0) = 4 := by
    unfold szN at h1 ⊢
    rcases lead_cases _ hg with ⟨hb, hf⟩ | ⟨hb, hf⟩ | ⟨hb, hb', hf⟩ | ⟨hb, hf⟩ | ⟨hb, hf⟩ | ⟨hb, hf⟩ | ⟨hb, hf⟩ | ⟨hb, hb', hf⟩ | ⟨hb, hf⟩ <;> rw [hf] at h1 ⊢ <;> omega
  obtain ⟨n, hn'⟩ : ∃ n, szN (g s.data.toList 0) = n := ⟨_, rfl⟩
  rw [hn'] at hn ⊢
  have hlh := lo_hi _ hg (by rw [hn']; exact hn) (by omega)
  rw [if_neg (by omega)]
  have hF := firstL_lead s.data.toList n hn (by omega) (by omega) hn'
  rw [hF, hl]
  unfold leadZ
  have r1 := rl_step s (k + 19) n 1 hn (by omega) (by omega) (by omega) hn'
  rw [show ((1 : Nat) : Int) = 1 from rfl] at r1
  rw [r1]
  have j1 := rj_step s (k + 18) n 1
  rw [show ((1 : Nat) : Int) = 1 from rfl, if_neg (by omega)] at j1
  by_cases n1 : s.size = 1
  · rw [if_neg (by omega), j1, if_pos (by omega), if_pos n1]
  rw [if_neg n1, if_pos (by omega)]
  have ob1 : okB s.data.toList 1 = true ↔ ¬ (g s.data.toList 1 < loN (g s.data.toList 0) ∨ hiN (g s.data.toList 0) < g s.data.toList 1) := by
    unfold okB
    rw [decide_eq_true_eq]
    constructor
    · intro h; omega
    · intro h; exact ⟨by omega, by omega, fun h => by omega, fun h => by omega⟩
  by_cases c1 : g s.data.toList 1 < loN (g s.data.toList 0) ∨ hiN (g s.data.toList 0) < g s.data.toList 1
  · rw [if_neg (by rw [ob1]; exact fun h => h c1), j1, if_neg (by omega), if_pos c1]
  have o1 := ob1.mpr c1
  rw [if_neg c1, if_pos o1]
  have lohi : 128 ≤ g s.data.toList 1 ∧ g s.data.toList 1 ≤ 191 := by omega
  by_cases s2 : n = 2
  · subst s2
    rw [show (((1 + 1 : Nat)) : Int) = ((2 : Nat) : Int) from rfl, rl_end s (k + 18) 2, rj_step s (k + 17) 2 2, if_pos rfl, if_pos (by omega), if_pos rfl]
    have e0 := g_extract s 2 0 (by omega)
    have e1 := g_extract s 2 1 (by omega)
    rw [v_two (s.extract 0 2) _ (by omega) (size_extract s 2 (by omega)) (by omega) (by omega) (by omega), e0, e1]
    simp only [Option.bind_some]
    congr 2
    omega
  rw [if_neg s2]
  have r2 := rl_step s (k + 18) n 2 hn (by omega) (by omega) (by omega) hn'
  rw [show (((1 + 1 : Nat)) : Int) = ((2 : Nat) : Int) from rfl, r2]
  have j2 := rj_step s (k + 17) n 2
  rw [if_neg (by omega)] at j2
  by_cases n2 : s.size = 2
  · rw [if_neg (by omega), j2, if_pos (by omega), if_pos n2]
  rw [if_neg n2, if_pos (by omega)]
  have ob2 : okB s.data.toList 2 = true ↔ ¬ (g s.data.toList 2 < 128 ∨ 191 < g s.data.toList 2) := by
    unfold okB
    rw [decide_eq_true_eq]
    constructor
    · intro h; have := h.2.2.1 (by omega); omega
    · intro h; exact ⟨by omega, by omega, fun h => by omega, fun h => by omega⟩
  by_cases c2 : g s.data.toList 2 < 128 ∨ 191 < g s.data.toList 2
  · rw [if_neg (by rw [ob2]; exact fun h => h c2), j2, if_neg (by omega), if_pos c2]; rfl
  have o2 := ob2.mpr c2
  rw [if_neg c2, if_pos o2]
  by_cases s3 : n = 3
  · subst s3
    rw [show (((2 + 1 : Nat)) : Int) = ((3 : Nat) : Int) from rfl, rl_end s (k + 17) 3, rj_step s (k + 16) 3 3, if_pos rfl, if_pos (by omega), if_pos rfl]
    have e0 := g_extract s 3 0 (by omega)
    have e1 := g_extract s 3 1 (by omega)
    have e2 := g_extract s 3 2 (by omega)
    rw [v_three (s.extract 0 3) _ (by omega) (size_extract s 3 (by omega)) (by omega) (by omega) (by omega) (by omega) (by omega), e0, e1, e2]
    simp only [Option.bind_some]
    congr 2
    omega
  rw [if_neg s3]
  have r3 := rl_step s (k + 17) n 3 hn (by omega) (by omega) (by omega) hn'
  rw [show (((2 + 1 : Nat)) : Int) = ((3 : Nat) : Int) from rfl, r3]
  have j3 := rj_step s (k + 16) n 3
  rw [if_neg (by omega)] at j3
  by_cases n3 : s.size = 3
  · rw [if_neg (by omega), j3, if_pos (by omega), if_pos n3]
  rw [if_neg n3, if_pos (by omega)]
  have ob3 : okB s.data.toList 3 = true ↔ ¬ (g s.data.toList 3 < 128 ∨ 191 < g s.data.toList 3) := by
    unfold okB
    rw [decide_eq_true_eq]
    constructor
    · intro h; have := h.2.2.2 (by omega); omega
    · intro h; exact ⟨by omega, by omega, fun h => by omega, fun h => by omega⟩
  by_cases c3 : g s.data.toList 3 < 128 ∨ 191 < g s.data.toList 3
  · rw [if_neg (by rw [ob3]; exact fun h => h c3), j3, if_neg (by omega), if_pos c3]; rfl
  have o3 := ob3.mpr c3
  rw [if_neg c3, if_pos o3]
  obtain rfl : n = 4 := by omega
  rw [show (((3 + 1 : Nat)) : Int) = ((4 : Nat) : Int) from rfl, rl_end s (k + 16) 4, rj_step s (k + 15) 4 4, if_pos rfl, if_pos (by omega)]
  have e0 := g_extract s 4 0 (by omega)
  have e1 := g_extract s 4 1 (by omega)
  have e2 := g_extract s 4 2 (by omega)
  have e3 := g_extract s 4 3 (by omega)
  rw [v_four (s.extract 0 4) _ (by omega) (size_extract s 4 (by omega)) (by omega) (by omega) (by omega) (by omega) (by omega) (by omega) (by omega), e0, e1, e2, e3]
  simp only [Option.bind_some]
  congr 2
  omega
end Go.Proofs.YtbnpcnpdeinacaaDoor
