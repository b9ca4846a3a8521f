-- A copy of the text YthipdgnbpdngpaaDoorMEnc with what this claim does not reach left out (prune.py, a program of this project).
import Derived.Test.YthipdgnbpdngpaaDoorZbMValid
namespace Go.Proofs.YthipdgnbpdngpaaDoor
open Go.RowKit Go.Lib Go.Proofs.YthipdgnbpdngpaaDoor.P
def enc (r : Int) : List UInt8 := (Utf8.encode r).data.toList
theorem g_cons0 (b : UInt8) (l : List UInt8) : g (b :: l) 0 = b.toNat := rfl
theorem g_cons1 (a b : UInt8) (l : List UInt8) : g (a :: b :: l) 1 = b.toNat := rfl
theorem g_cons2 (a b c : UInt8) (l : List UInt8) : g (a :: b :: c :: l) 2 = c.toNat := rfl
theorem g_cons3 (a b c d : UInt8) (l : List UInt8) : g (a :: b :: c :: d :: l) 3 = d.toNat := rfl
theorem ofNat_b (n : Nat) (h : n < 256) : (UInt8.ofNat n).toNat = n := by simp; omega
theorem valid_iff (r : Int) : Lib.validRune r = true ↔ (0 ≤ r ∧ r < 55296) ∨ (57343 < r ∧ r ≤ 1114111) := by unfold Lib.validRune; rw [decide_eq_true_eq]
/-- A letter's bytes, by its size. -/
theorem enc_cases (r : Int) (hv : Lib.validRune r = true) :
    (r < 128 ∧ enc r = [UInt8.ofNat r.toNat]) ∨ (128 ≤ r ∧ r < 2048 ∧ enc r = [UInt8.ofNat (192 + r.toNat / 64), UInt8.ofNat (128 + r.toNat % 64)]) ∨
    (2048 ≤ r ∧ r < 65536 ∧ enc r = [UInt8.ofNat (224 + r.toNat / 4096), UInt8.ofNat (128 + r.toNat / 64 % 64), UInt8.ofNat (128 + r.toNat % 64)]) ∨
    (65536 ≤ r ∧ enc r = [UInt8.ofNat (240 + r.toNat / 262144), UInt8.ofNat (128 + r.toNat / 4096 % 64), UInt8.ofNat (128 + r.toNat / 64 % 64), UInt8.ofNat (128 + r.toNat % 64)]) := by
  have hz := (valid_iff r).mp hv
  have hu : Utf8.valid r = true := by rw [validRune_eq]; exact hv
  unfold enc Utf8.encode
  simp only [hu, if_true]
  by_cases h1 : r < 128
  · left; rw [if_pos (by omega)]; exact ⟨h1, rfl⟩
  right
  by_cases h2 : r < 2048
  · left; rw [if_neg (by omega), if_pos (by omega)]; exact ⟨by omega, h2, rfl⟩
  right
  by_cases h3 : r < 65536
  · left; rw [if_neg (by omega), if_neg (by omega), if_pos (by omega)]; exact ⟨by omega, h3, rfl⟩
  right
  rw [if_neg (by omega), if_neg (by omega), if_neg (by omega)]; exact ⟨by omega, rfl⟩
theorem ok1 (l : List UInt8) (hl : l.length ≠ 0) (h : g l 0 < 128) : firstL l = ((g l 0 : Int), 1, 0) := by unfold firstL; rw [if_neg hl, if_pos h]
theorem ok2 (l : List UInt8) (hl : 2 ≤ l.length) (h0 : 194 ≤ g l 0) (h0' : g l 0 < 224) (h1 : 128 ≤ g l 1) (h1' : g l 1 ≤ 191) : firstL l = (val2 l, 2, 0) := by
  have hg := g_lt l 0
  have hs : szN (g l 0) = 2 := by
    unfold szN
    rcases lead_cases _ hg with ⟨hb, hf⟩ | ⟨hb, hf⟩ | ⟨hb, hb', hf⟩ | ⟨hb, hf⟩ | ⟨hb, hf⟩ | ⟨hb, hf⟩ | ⟨hb, hf⟩ | ⟨hb, hb', hf⟩ | ⟨hb, hf⟩ <;> rw [hf] <;> omega
  have hlh := lo_hi _ hg (.inl hs) (by omega)
  rw [firstL_lead l 2 (by omega) (by omega) (by omega) hs]
  unfold leadZ val2
  rw [if_neg (by omega), if_neg (by omega), if_pos rfl]
theorem ok3 (l : List UInt8) (hl : 3 ≤ l.length) (h0 : 224 ≤ g l 0) (h0' : g l 0 < 240) (h1 : 128 ≤ g l 1) (h1' : g l 1 ≤ 191) (ha : g l 0 = 224 → 160 ≤ g l 1) (hb : g l 0 = 237 → g l 1 ≤ 159) (h2 : 128 ≤ g l 2) (h2' : g l 2 ≤ 191) : firstL l = (val3 l, 3, 0) := by
  have hg := g_lt l 0
  have hs : szN (g l 0) = 3 := by
    unfold szN
    rcases lead_cases _ hg with ⟨hb, hf⟩ | ⟨hb, hf⟩ | ⟨hb, hb', hf⟩ | ⟨hb, hf⟩ | ⟨hb, hf⟩ | ⟨hb, hf⟩ | ⟨hb, hf⟩ | ⟨hb, hb', hf⟩ | ⟨hb, hf⟩ <;> rw [hf] <;> omega
  have hlh := lo_hi _ hg (.inr (.inl hs)) (by omega)
  rw [firstL_lead l 3 (by omega) (by omega) (by omega) hs]
  unfold leadZ val3
  rw [if_neg (by omega), if_neg (by omega), if_neg (by omega), if_neg (by omega), if_neg (by omega), if_pos rfl]
theorem ok4 (l : List UInt8) (hl : 4 ≤ l.length) (h0 : 240 ≤ g l 0) (h0' : g l 0 < 245) (h1 : 128 ≤ g l 1) (h1' : g l 1 ≤ 191) (ha : g l 0 = 240 → 144 ≤ g l 1) (hb : g l 0 = 244 → g l 1 ≤ 143) (h2 : 128 ≤ g l 2) (h2' : g l 2 ≤ 191) (h3 : 128 ≤ g l 3) (h3' : g l 3 ≤ 191) : firstL l = (val4 l, 4, 0) := by
  have hg := g_lt l 0
  have hs : szN (g l 0) = 4 := by
    unfold szN
    rcases lead_cases _ hg with ⟨hb, hf⟩ | ⟨hb, hf⟩ | ⟨hb, hb', hf⟩ | ⟨hb, hf⟩ | ⟨hb, hf⟩ | ⟨hb, hf⟩ | ⟨hb, hf⟩ | ⟨hb, hb', hf⟩ | ⟨hb, hf⟩ <;> rw [hf] <;> omega
  have hlh := lo_hi _ hg (.inr (.inr hs)) (by omega)
  rw [firstL_lead l 4 (by omega) (by omega) (by omega) hs]
  unfold leadZ val4
  rw [if_neg (by omega), if_neg (by omega), if_neg (by omega), if_neg (by omega), if_neg (by omega), if_neg (by omega), if_neg (by omega), if_neg (by omega)]
theorem enc_len (r : Int) (hv : Lib.validRune r = true) : 1 ≤ (enc r).length ∧ (enc r).length ≤ 4 := by
  rcases enc_cases r hv with ⟨_, e⟩ | ⟨_, _, e⟩ | ⟨_, _, e⟩ | ⟨_, e⟩ <;> rw [e] <;> simp
/-- What is written is read, whatever is behind it. -/
theorem first_enc (r : Int) (hv : Lib.validRune r = true) (l : List UInt8) : firstL (enc r ++ l) = (r, ((enc r).length : Int), 0) := by
  have hz := (valid_iff r).mp hv
  rcases enc_cases r hv with ⟨h, e⟩ | ⟨h, h', e⟩ | ⟨h, h', e⟩ | ⟨h, e⟩ <;> rw [e]
  · have b0 : g ([UInt8.ofNat r.toNat] ++ l) 0 = r.toNat := by rw [List.singleton_append, g_cons0, ofNat_b _ (by omega)]
    rw [ok1 _ (by simp) (by omega), b0]
    simp only [List.length_cons, List.length_nil]
    rw [show ((r.toNat : Nat) : Int) = r by omega]; rfl
  · have b0 : g ([UInt8.ofNat (192 + r.toNat / 64), UInt8.ofNat (128 + r.toNat % 64)] ++ l) 0 = 192 + r.toNat / 64 := by rw [List.cons_append, g_cons0, ofNat_b _ (by omega)]
    have b1 : g ([UInt8.ofNat (192 + r.toNat / 64), UInt8.ofNat (128 + r.toNat % 64)] ++ l) 1 = 128 + r.toNat % 64 := by rw [List.cons_append, List.cons_append, g_cons1, ofNat_b _ (by omega)]
    rw [ok2 _ (by simp) (by omega) (by omega) (by omega) (by omega)]
    unfold val2
    rw [b0, b1]
    simp only [List.length_cons, List.length_nil, Prod.mk.injEq]
    refine ⟨by omega, by omega, trivial⟩
  · have b0 : g ([UInt8.ofNat (224 + r.toNat / 4096), UInt8.ofNat (128 + r.toNat / 64 % 64), UInt8.ofNat (128 + r.toNat % 64)] ++ l) 0 = 224 + r.toNat / 4096 := by rw [List.cons_append, g_cons0, ofNat_b _ (by omega)]
    have b1 : g ([UInt8.ofNat (224 + r.toNat / 4096), UInt8.ofNat (128 + r.toNat / 64 % 64), UInt8.ofNat (128 + r.toNat % 64)] ++ l) 1 = 128 + r.toNat / 64 % 64 := by rw [List.cons_append, List.cons_append, g_cons1, ofNat_b _ (by omega)]
    have b2 : g ([UInt8.ofNat (224 + r.toNat / 4096), UInt8.ofNat (128 + r.toNat / 64 % 64), UInt8.ofNat (128 + r.toNat % 64)] ++ l) 2 = 128 + r.toNat % 64 := by rw [List.cons_append, List.cons_append, List.cons_append, g_cons2, ofNat_b _ (by omega)]
    rw [ok3 _ (by simp) (by omega) (by omega) (by omega) (by omega) (by omega) (by omega) (by omega) (by omega)]
    unfold val3
    rw [b0, b1, b2]
    simp only [List.length_cons, List.length_nil, Prod.mk.injEq]
    refine ⟨by omega, by omega, trivial⟩
  · have b0 : g ([UInt8.ofNat (240 + r.toNat / 262144), UInt8.ofNat (128 + r.toNat / 4096 % 64), UInt8.ofNat (128 + r.toNat / 64 % 64), UInt8.ofNat (128 + r.toNat % 64)] ++ l) 0 = 240 + r.toNat / 262144 := by rw [List.cons_append, g_cons0, ofNat_b _ (by omega)]
    have b1 : g ([UInt8.ofNat (240 + r.toNat / 262144), UInt8.ofNat (128 + r.toNat / 4096 % 64), UInt8.ofNat (128 + r.toNat / 64 % 64), UInt8.ofNat (128 + r.toNat % 64)] ++ l) 1 = 128 + r.toNat / 4096 % 64 := by rw [List.cons_append, List.cons_append, g_cons1, ofNat_b _ (by omega)]
    have b2 : g ([UInt8.ofNat (240 + r.toNat / 262144), UInt8.ofNat (128 + r.toNat / 4096 % 64), UInt8.ofNat (128 + r.toNat / 64 % 64), UInt8.ofNat (128 + r.toNat % 64)] ++ l) 2 = 128 + r.toNat / 64 % 64 := by rw [List.cons_append, List.cons_append, List.cons_append, g_cons2, ofNat_b _ (by omega)]
    have b3 : g ([UInt8.ofNat (240 + r.toNat / 262144), UInt8.ofNat (128 + r.toNat / 4096 % 64), UInt8.ofNat (128 + r.toNat / 64 % 64), UInt8.ofNat (128 + r.toNat % 64)] ++ l) 3 = 128 + r.toNat % 64 := by rw [List.cons_append, List.cons_append, List.cons_append, List.cons_append, g_cons3, ofNat_b _ (by omega)]
    rw [ok4 _ (by simp) (by omega) (by omega) (by omega) (by omega) (by omega) (by omega) (by omega) (by omega) (by omega) (by omega)]
    unfold val4
    rw [b0, b1, b2, b3]
    simp only [List.length_cons, List.length_nil, Prod.mk.injEq]
    refine ⟨by omega, by omega, trivial⟩
theorem take1 (l : List UInt8) (h : 1 ≤ l.length) : l.take 1 = [UInt8.ofNat (g l 0)] := by
  match l, h with
  | a :: t, _ => rw [g_cons0]; simp
theorem take2 (l : List UInt8) (h : 2 ≤ l.length) : l.take 2 = [UInt8.ofNat (g l 0), UInt8.ofNat (g l 1)] := by
  match l, h with
  | a :: b :: t, _ => rw [g_cons0, g_cons1]; simp
theorem take3 (l : List UInt8) (h : 3 ≤ l.length) : l.take 3 = [UInt8.ofNat (g l 0), UInt8.ofNat (g l 1), UInt8.ofNat (g l 2)] := by
  match l, h with
  | a :: b :: c :: t, _ => rw [g_cons0, g_cons1, g_cons2]; simp
theorem take4 (l : List UInt8) (h : 4 ≤ l.length) : l.take 4 = [UInt8.ofNat (g l 0), UInt8.ofNat (g l 1), UInt8.ofNat (g l 2), UInt8.ofNat (g l 3)] := by
  match l, h with
  | a :: b :: c :: d :: t, _ => rw [g_cons0, g_cons1, g_cons2, g_cons3]; simp
theorem enc1 (r : Int) (h0 : 0 ≤ r) (h : r < 128) : enc r = [UInt8.ofNat r.toNat] := by
  rcases enc_cases r ((valid_iff r).mpr (by omega)) with ⟨_, e⟩ | ⟨_, _, e⟩ | ⟨_, _, e⟩ | ⟨_, e⟩
  · exact e
  all_goals omega
theorem enc2 (r : Int) (h0 : 128 ≤ r) (h : r < 2048) : enc r = [UInt8.ofNat (192 + r.toNat / 64), UInt8.ofNat (128 + r.toNat % 64)] := by
  rcases enc_cases r ((valid_iff r).mpr (by omega)) with ⟨_, e⟩ | ⟨_, _, e⟩ | ⟨_, _, e⟩ | ⟨_, e⟩
  · omega
  · exact e
  all_goals omega
theorem enc3 (r : Int) (hv : Lib.validRune r = true) (h0 : 2048 ≤ r) (h : r < 65536) : enc r = [UInt8.ofNat (224 + r.toNat / 4096), UInt8.ofNat (128 + r.toNat / 64 % 64), UInt8.ofNat (128 + r.toNat % 64)] := by
  rcases enc_cases r hv with ⟨_, e⟩ | ⟨_, _, e⟩ | ⟨_, _, e⟩ | ⟨_, e⟩
  · omega
  · omega
  · exact e
  · omega
theorem enc4 (r : Int) (hv : Lib.validRune r = true) (h0 : 65536 ≤ r) : enc r = [UInt8.ofNat (240 + r.toNat / 262144), UInt8.ofNat (128 + r.toNat / 4096 % 64), UInt8.ofNat (128 + r.toNat / 64 % 64), UInt8.ofNat (128 + r.toNat % 64)] := by
  rcases enc_cases r hv with ⟨_, e⟩ | ⟨_, _, e⟩ | ⟨_, _, e⟩ | ⟨_, e⟩
  · omega
  · omega
  · omega
  · exact e
/-- What is read, written, is the same bytes. -/
theorem first_back (l : List UInt8) (hl : l.length ≠ 0) (he : (firstL l).2.2 = 0) :
    Lib.validRune (firstL l).1 = true ∧ enc (firstL l).1 = l.take (firstL l).2.1.toNat ∧ 1 ≤ (firstL l).2.1 ∧ (firstL l).2.1 ≤ 4 ∧ (firstL l).2.1 ≤ l.length := by
  have hg := g_lt l 0
  by_cases h128 : g l 0 < 128
  · rw [ok1 l hl h128]
    refine ⟨(valid_iff _).mpr (by simp only; omega), ?_, by simp only; omega, by simp only; omega, by simp only; omega⟩
    simp only
    rw [enc1 _ (by omega) (by omega), show ((1 : Int)).toNat = 1 from rfl, take1 l (by omega), show ((g l 0 : Int)).toNat = g l 0 by omega]
  by_cases h1 : szN (g l 0) = 1
  · exfalso
    revert he
    unfold firstL; rw [if_neg hl, if_neg h128, if_pos h1]; decide
  have hsz := sz_cases _ hg (by omega) h1
  have hlh := lo_hi _ hg hsz (by omega)
  have hF := firstL_lead l _ hsz hl (by omega) rfl
  rw [hF] at he
  unfold leadZ at he
  by_cases n1 : l.length = 1
  · rw [if_pos n1] at he; simp at he
  by_cases c1 : g l 1 < loN (g l 0) ∨ hiN (g l 0) < g l 1
  · rw [if_neg n1, if_pos c1] at he; simp at he
  by_cases s2 : szN (g l 0) = 2
  · rw [ok2 l (by omega) (by omega) (by omega) (by omega) (by omega)]
    refine ⟨(valid_iff _).mpr (by unfold val2; simp only; omega), ?_, by simp only; omega, by simp only; omega, by simp only; omega⟩
    simp only
    rw [show ((2 : Int)).toNat = 2 from rfl, take2 l (by omega), enc2 _ (by unfold val2; omega) (by unfold val2; omega)]
    unfold val2
    rw [show 192 + (((g l 0 % 32 * 64 + g l 1 % 64 : Nat)) : Int).toNat / 64 = g l 0 by omega, show 128 + (((g l 0 % 32 * 64 + g l 1 % 64 : Nat)) : Int).toNat % 64 = g l 1 by omega]
  by_cases n2 : l.length = 2
  · rw [if_neg n1, if_neg c1, if_neg s2, if_pos n2] at he; simp at he
  by_cases c2 : g l 2 < 128 ∨ 191 < g l 2
  · rw [if_neg n1, if_neg c1, if_neg s2, if_neg n2, if_pos c2] at he; simp at he
  by_cases s3 : szN (g l 0) = 3
  · have hv : Lib.validRune (val3 l) = true := (valid_iff _).mpr (by unfold val3; omega)
    rw [ok3 l (by omega) (by omega) (by omega) (by omega) (by omega) (by omega) (by omega) (by omega) (by omega)]
    refine ⟨hv, ?_, by simp only; omega, by simp only; omega, by simp only; omega⟩
    simp only
    rw [show ((3 : Int)).toNat = 3 from rfl, take3 l (by omega), enc3 _ hv (by unfold val3; omega) (by unfold val3; omega)]
    unfold val3
    rw [show 224 + (((g l 0 % 16 * 4096 + g l 1 % 64 * 64 + g l 2 % 64 : Nat)) : Int).toNat / 4096 = g l 0 by omega, show 128 + (((g l 0 % 16 * 4096 + g l 1 % 64 * 64 + g l 2 % 64 : Nat)) : Int).toNat / 64 % 64 = g l 1 by omega, show 128 + (((g l 0 % 16 * 4096 + g l 1 % 64 * 64 + g l 2 % 64 : Nat)) : Int).toNat % 64 = g l 2 by omega]
  by_cases n3 : l.length = 3
  · rw [if_neg n1, if_neg c1, if_neg s2, if_neg n2, if_neg c2, if_neg s3, if_pos n3] at he; simp at he
  by_cases c3 : g l 3 < 128 ∨ 191 < g l 3
  · rw [if_neg n1, if_neg c1, if_neg s2, if_neg n2, if_neg c2, if_neg s3, if_neg n3, if_pos c3] at he; simp at he
  have hv : Lib.validRune (val4 l) = true := (valid_iff _).mpr (by unfold val4; omega)
  rw [ok4 l (by omega) (by omega) (by omega) (by omega) (by omega) (by omega) (by omega) (by omega) (by omega) (by omega) (by omega)]
  refine ⟨hv, ?_, by simp only; omega, by simp only; omega, by simp only; omega⟩
  simp only
  rw [show ((4 : Int)).toNat = 4 from rfl, take4 l (by omega), enc4 _ hv (by unfold val4; omega)]
  unfold val4
  rw [show 240 + (((g l 0 % 8 * 262144 + g l 1 % 64 * 4096 + g l 2 % 64 * 64 + g l 3 % 64 : Nat)) : Int).toNat / 262144 = g l 0 by omega, show 128 + (((g l 0 % 8 * 262144 + g l 1 % 64 * 4096 + g l 2 % 64 * 64 + g l 3 % 64 : Nat)) : Int).toNat / 4096 % 64 = g l 1 by omega, show 128 + (((g l 0 % 8 * 262144 + g l 1 % 64 * 4096 + g l 2 % 64 * 64 + g l 3 % 64 : Nat)) : Int).toNat / 64 % 64 = g l 2 by omega, show 128 + (((g l 0 % 8 * 262144 + g l 1 % 64 * 4096 + g l 2 % 64 * 64 + g l 3 % 64 : Nat)) : Int).toNat % 64 = g l 3 by omega]
end Go.Proofs.YthipdgnbpdngpaaDoor
