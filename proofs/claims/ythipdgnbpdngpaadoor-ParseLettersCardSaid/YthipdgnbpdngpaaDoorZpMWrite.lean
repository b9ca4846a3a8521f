-- Copies of the texts YthipdgnbpdngpaaDoorMRef, YthipdgnbpdngpaaDoorPx5, YthipdgnbpdngpaaDoorMValid, YthipdgnbpdngpaaDoorMEnc, YthipdgnbpdngpaaDoorPx6, YthipdgnbpdngpaaDoorPx7, YthipdgnbpdngpaaDoorMBack, YthipdgnbpdngpaaDoorPx8, YthipdgnbpdngpaaDoorGWidth, YthipdgnbpdngpaaDoorPx9, YthipdgnbpdngpaaDoorMWrite with what this claim does not reach left out (prune.py, a program of this project).
import Derived.Test.YthipdgnbpdngpaaDoorZpMFirst
import Derived.Test.YthipdgnbpdngpaaDoorZpPx4
import Derived.Test.YthipdgnbpdngpaaDoorZpPx0
import Derived.Test.YthipdgnbpdngpaaDoorZpPx3
import Derived.Test.YthipdgnbpdngpaaDoorZpGText
import Derived.Test.YthipdgnbpdngpaaDoorZpShelf
import Derived.WalkKit
import Derived.Deep.QuietTactic
import Derived.BigQuiet
import Derived.Lib.Hide
section
namespace Go.Proofs.YthipdgnbpdngpaaDoor
open Go.RowKit Go.Lib Go.Proofs.YthipdgnbpdngpaaDoorW.PrintWords Go.Proofs.YthipdgnbpdngpaaDoorW.PrintLast Go.Proofs.YthipdgnbpdngpaaDoor.P
theorem w32 {i : Int} (h0 : -1000000000 ≤ i) (h1 : i ≤ 1000000000) : wrap32 i = i := by unfold wrap32; omega
theorem lo_hi (b : Nat) (hb : b < 256) (h : szN b = 2 ∨ szN b = 3 ∨ szN b = 4) (h128 : 128 ≤ b) :
    (szN b = 2 ∧ 194 ≤ b ∧ b < 224 ∧ loN b = 128 ∧ hiN b = 191) ∨ (szN b = 3 ∧ b = 224 ∧ loN b = 160 ∧ hiN b = 191) ∨ (szN b = 3 ∧ (225 ≤ b ∧ b < 237 ∨ 238 ≤ b ∧ b < 240) ∧ loN b = 128 ∧ hiN b = 191) ∨
    (szN b = 3 ∧ b = 237 ∧ loN b = 128 ∧ hiN b = 159) ∨ (szN b = 4 ∧ b = 240 ∧ loN b = 144 ∧ hiN b = 191) ∨ (szN b = 4 ∧ 241 ≤ b ∧ b < 244 ∧ loN b = 128 ∧ hiN b = 191) ∨ (szN b = 4 ∧ b = 244 ∧ loN b = 128 ∧ hiN b = 143) := by
  unfold szN loN hiN at *
  rcases lead_cases b hb with ⟨hb, hf⟩ | ⟨hb, hf⟩ | ⟨hb, hb', hf⟩ | ⟨hb, hf⟩ | ⟨hb, hf⟩ | ⟨hb, hf⟩ | ⟨hb, hf⟩ | ⟨hb, hb', hf⟩ | ⟨hb, hf⟩ <;> rw [hf] at h ⊢ <;> simp [accLo, accHi] at h ⊢ <;> omega
theorem size_extract (s : ByteArray) (j : Nat) (h : j ≤ s.size) : (s.extract 0 j).size = j := by
  rw [← len_size, toList_extract, List.drop_zero, List.length_take, len_size]; omega
end Go.Proofs.YthipdgnbpdngpaaDoor
end
section
namespace Go.Proofs.YthipdgnbpdngpaaDoor.P
open Go.RowKit Go.Proofs.YthipdgnbpdngpaaDoor Go.Proofs.YthipdgnbpdngpaaDoorW.PrintWords Go.Proofs.YthipdgnbpdngpaaDoorW.PrintLast Go.Proofs.YthipdgnbpdngpaaDoorW.PrintMore
attribute [local go_sem] max2_int min2_int max_two min_two max_three min_three max_four min_four   -- for this text's walks alone
set_option linter.unusedVariables false
set_option linter.unusedSimpArgs false
def backseatlaw01_UtfReads.f (k : Nat) (a0 : ByteArray) : Option (Bool) := if 0 ≤ (mn (a0.size : Int) 200) then (if (mn (a0.size : Int) 200) ≤ (a0.size : Int) then ((utf_First.f k (a0.extract 0 ((mn (a0.size : Int) 200) : Int).toNat)).bind fun bt122 => ((backseatref01_First.f k (a0.extract 0 ((mn (a0.size : Int) 200) : Int).toNat)).bind fun bt125 => ((backseatlaw01_alive.f k).bind fun t129 => (if t129 = true then (if bt122.1 = bt125.1 then (if bt122.2.1 = bt125.2.1 then (if bt122.2.2 = bt125.2.2 then ((utf_Valid.f (a0.extract 0 ((mn (a0.size : Int) 200) : Int).toNat)).bind fun t130 => ((backseatref01_Valid.f k (a0.extract 0 ((mn (a0.size : Int) 200) : Int).toNat)).bind fun t131 => (some (t130 == t131)))) else (some false)) else (some false)) else (some false)) else (some false))))) else (none)) else (none)
theorem backseatlaw01_UtfReads.mono : ∀ a0 k, LeO (backseatlaw01_UtfReads.f k a0) (backseatlaw01_UtfReads.f (k + 1) a0) := by
  intro a0 k
  unfold backseatlaw01_UtfReads.f
  repeat' first
      | (with_reducible exact backseatlaw01_alive.mono _)
      | (with_reducible exact backseatref01_First.mono _ _)
      | (with_reducible exact backseatref01_Valid.mono _ _)
      | (with_reducible exact utf_First.mono _ _)
      | (with_reducible exact LeO.refl _)
      | (with_reducible exact LeO.none _)
      | (with_reducible refine LeO.ite ?_ ?_)
      | (with_reducible refine LeO.bind ?_ (fun _ => ?_))
      | exact backseatlaw01_alive.mono _
      | exact backseatref01_First.mono _ _
      | exact backseatref01_Valid.mono _ _
      | exact utf_First.mono _ _
      | exact LeO.none _
      | refine LeO.ite ?_ ?_
      | refine LeO.bind ?_ (fun _ => ?_)
end Go.Proofs.YthipdgnbpdngpaaDoor.P
end
section
namespace Go.Proofs.YthipdgnbpdngpaaDoor
open Go.RowKit Go.Lib Go.Proofs.YthipdgnbpdngpaaDoorW.PrintWords Go.Proofs.YthipdgnbpdngpaaDoorW.PrintLast Go.Proofs.YthipdgnbpdngpaaDoor.P
theorem sz_cases (b : Nat) (hb : b < 256) (h128 : 128 ≤ b) (h1 : szN b ≠ 1) : szN b = 2 ∨ szN b = 3 ∨ szN b = 4 := by
  unfold szN at h1 ⊢
  rcases lead_cases _ hb with ⟨hb, hf⟩ | ⟨hb, hf⟩ | ⟨hb, hb', hf⟩ | ⟨hb, hf⟩ | ⟨hb, hf⟩ | ⟨hb, hf⟩ | ⟨hb, hf⟩ | ⟨hb, hb', hf⟩ | ⟨hb, hf⟩ <;> rw [hf] at h1 ⊢ <;> omega
end Go.Proofs.YthipdgnbpdngpaaDoor
end
section
namespace Go.Proofs.YthipdgnbpdngpaaDoor
open Go.RowKit Go.Lib Go.Proofs.YthipdgnbpdngpaaDoor.P
def enc (r : Int) : List UInt8 := (Utf8.encode r).data.toList
theorem g_cons0 (b : UInt8) (l : List UInt8) : g (b :: l) 0 = b.toNat := rfl
theorem g_cons1 (a b : UInt8) (l : List UInt8) : g (a :: b :: l) 1 = b.toNat := rfl
theorem g_cons2 (a b c : UInt8) (l : List UInt8) : g (a :: b :: c :: l) 2 = c.toNat := rfl
theorem g_cons3 (a b c d : UInt8) (l : List UInt8) : g (a :: b :: c :: d :: l) 3 = d.toNat := rfl
theorem ofNat_b (n : Nat) (h : n < 256) : (UInt8.ofNat n).toNat = n := by simp; omega
theorem valid_iff (r : Int) : Lib.validRune r = true ↔ (0 ≤ r ∧ r < 55296) ∨ (57343 < r ∧ r ≤ 1114111) := by unfold Lib.validRune; rw [decide_eq_true_eq]
/-- A letter's bytes, by its size. -/
theorem enc_cases (r : Int) (hv : Lib.validRune r = true) :
    (r < 128 ∧ enc r = [UInt8.ofNat r.toNat]) ∨ (128 ≤ r ∧ r < 2048 ∧ enc r = [UInt8.ofNat (192 + r.toNat / 64), UInt8.ofNat (128 + r.toNat % 64)]) ∨
    (2048 ≤ r ∧ r < 65536 ∧ enc r = [UInt8.ofNat (224 + r.toNat / 4096), UInt8.ofNat (128 + r.toNat / 64 % 64), UInt8.ofNat (128 + r.toNat % 64)]) ∨
    (65536 ≤ r ∧ enc r = [UInt8.ofNat (240 + r.toNat / 262144), UInt8.ofNat (128 + r.toNat / 4096 % 64), UInt8.ofNat (128 + r.toNat / 64 % 64), UInt8.ofNat (128 + r.toNat % 64)]) := by
  have hz := (valid_iff r).mp hv
  have hu : Utf8.valid r = true := by rw [validRune_eq]; exact hv
  unfold enc Utf8.encode
  simp only [hu, if_true]
  by_cases h1 : r < 128
  · left; rw [if_pos (by omega)]; exact ⟨h1, rfl⟩
  right
  by_cases h2 : r < 2048
  · left; rw [if_neg (by omega), if_pos (by omega)]; exact ⟨by omega, h2, rfl⟩
  right
  by_cases h3 : r < 65536
  · left; rw [if_neg (by omega), if_neg (by omega), if_pos (by omega)]; exact ⟨by omega, h3, rfl⟩
  right
  rw [if_neg (by omega), if_neg (by omega), if_neg (by omega)]; exact ⟨by omega, rfl⟩
theorem ok1 (l : List UInt8) (hl : l.length ≠ 0) (h : g l 0 < 128) : firstL l = ((g l 0 : Int), 1, 0) := by unfold firstL; rw [if_neg hl, if_pos h]
theorem ok2 (l : List UInt8) (hl : 2 ≤ l.length) (h0 : 194 ≤ g l 0) (h0' : g l 0 < 224) (h1 : 128 ≤ g l 1) (h1' : g l 1 ≤ 191) : firstL l = (val2 l, 2, 0) := by
  have hg := g_lt l 0
  have hs : szN (g l 0) = 2 := by
    unfold szN
    rcases lead_cases _ hg with ⟨hb, hf⟩ | ⟨hb, hf⟩ | ⟨hb, hb', hf⟩ | ⟨hb, hf⟩ | ⟨hb, hf⟩ | ⟨hb, hf⟩ | ⟨hb, hf⟩ | ⟨hb, hb', hf⟩ | ⟨hb, hf⟩ <;> rw [hf] <;> omega
  have hlh := lo_hi _ hg (.inl hs) (by omega)
  rw [firstL_lead l 2 (by omega) (by omega) (by omega) hs]
  unfold leadZ val2
  rw [if_neg (by omega), if_neg (by omega), if_pos rfl]
theorem ok3 (l : List UInt8) (hl : 3 ≤ l.length) (h0 : 224 ≤ g l 0) (h0' : g l 0 < 240) (h1 : 128 ≤ g l 1) (h1' : g l 1 ≤ 191) (ha : g l 0 = 224 → 160 ≤ g l 1) (hb : g l 0 = 237 → g l 1 ≤ 159) (h2 : 128 ≤ g l 2) (h2' : g l 2 ≤ 191) : firstL l = (val3 l, 3, 0) := by
  have hg := g_lt l 0
  have hs : szN (g l 0) = 3 := by
    unfold szN
    rcases lead_cases _ hg with ⟨hb, hf⟩ | ⟨hb, hf⟩ | ⟨hb, hb', hf⟩ | ⟨hb, hf⟩ | ⟨hb, hf⟩ | ⟨hb, hf⟩ | ⟨hb, hf⟩ | ⟨hb, hb', hf⟩ | ⟨hb, hf⟩ <;> rw [hf] <;> omega
  have hlh := lo_hi _ hg (.inr (.inl hs)) (by omega)
  rw [firstL_lead l 3 (by omega) (by omega) (by omega) hs]
  unfold leadZ val3
  rw [if_neg (by omega), if_neg (by omega), if_neg (by omega), if_neg (by omega), if_neg (by omega), if_pos rfl]
theorem ok4 (l : List UInt8) (hl : 4 ≤ l.length) (h0 : 240 ≤ g l 0) (h0' : g l 0 < 245) (h1 : 128 ≤ g l 1) (h1' : g l 1 ≤ 191) (ha : g l 0 = 240 → 144 ≤ g l 1) (hb : g l 0 = 244 → g l 1 ≤ 143) (h2 : 128 ≤ g l 2) (h2' : g l 2 ≤ 191) (h3 : 128 ≤ g l 3) (h3' : g l 3 ≤ 191) : firstL l = (val4 l, 4, 0) := by
  have hg := g_lt l 0
  have hs : szN (g l 0) = 4 := by
    unfold szN
    rcases lead_cases _ hg with ⟨hb, hf⟩ | ⟨hb, hf⟩ | ⟨hb, hb', hf⟩ | ⟨hb, hf⟩ | ⟨hb, hf⟩ | ⟨hb, hf⟩ | ⟨hb, hf⟩ | ⟨hb, hb', hf⟩ | ⟨hb, hf⟩ <;> rw [hf] <;> omega
  have hlh := lo_hi _ hg (.inr (.inr hs)) (by omega)
  rw [firstL_lead l 4 (by omega) (by omega) (by omega) hs]
  unfold leadZ val4
  rw [if_neg (by omega), if_neg (by omega), if_neg (by omega), if_neg (by omega), if_neg (by omega), if_neg (by omega), if_neg (by omega), if_neg (by omega)]
theorem enc_len (r : Int) (hv : Lib.validRune r = true) : 1 ≤ (enc r).length ∧ (enc r).length ≤ 4 := by
  rcases enc_cases r hv with ⟨_, e⟩ | ⟨_, _, e⟩ | ⟨_, _, e⟩ | ⟨_, e⟩ <;> rw [e] <;> simp
/-- What is written is read, whatever is behind it. -/
theorem first_enc (r : Int) (hv : Lib.validRune r = true) (l : List UInt8) : firstL (enc r ++ l) = (r, ((enc r).length : Int), 0) := by
  have hz := (valid_iff r).mp hv
  rcases enc_cases r hv with ⟨h, e⟩ | ⟨h, h', e⟩ | ⟨h, h', e⟩ | ⟨h, e⟩ <;> rw [e]
  · have b0 : g ([UInt8.ofNat r.toNat] ++ l) 0 = r.toNat := by rw [List.singleton_append, g_cons0, ofNat_b _ (by omega)]
    rw [ok1 _ (by simp) (by omega), b0]
    simp only [List.length_cons, List.length_nil]
    rw [show ((r.toNat : Nat) : Int) = r by omega]; rfl
  · have b0 : g ([UInt8.ofNat (192 + r.toNat / 64), UInt8.ofNat (128 + r.toNat % 64)] ++ l) 0 = 192 + r.toNat / 64 := by rw [List.cons_append, g_cons0, ofNat_b _ (by omega)]
    have b1 : g ([UInt8.ofNat (192 + r.toNat / 64), UInt8.ofNat (128 + r.toNat % 64)] ++ l) 1 = 128 + r.toNat % 64 := by rw [List.cons_append, List.cons_append, g_cons1, ofNat_b _ (by omega)]
    rw [ok2 _ (by simp) (by omega) (by omega) (by omega) (by omega)]
    unfold val2
    rw [b0, b1]
    simp only [List.length_cons, List.length_nil, Prod.mk.injEq]
    refine ⟨by omega, by omega, trivial⟩
  · have b0 : g ([UInt8.ofNat (224 + r.toNat / 4096), UInt8.ofNat (128 + r.toNat / 64 % 64), UInt8.ofNat (128 + r.toNat % 64)] ++ l) 0 = 224 + r.toNat / 4096 := by rw [List.cons_append, g_cons0, ofNat_b _ (by omega)]
    have b1 : g ([UInt8.ofNat (224 + r.toNat / 4096), UInt8.ofNat (128 + r.toNat / 64 % 64), UInt8.ofNat (128 + r.toNat % 64)] ++ l) 1 = 128 + r.toNat / 64 % 64 := by rw [List.cons_append, List.cons_append, g_cons1, ofNat_b _ (by omega)]
    have b2 : g ([UInt8.ofNat (224 + r.toNat / 4096), UInt8.ofNat (128 + r.toNat / 64 % 64), UInt8.ofNat (128 + r.toNat % 64)] ++ l) 2 = 128 + r.toNat % 64 := by rw [List.cons_append, List.cons_append, List.cons_append, g_cons2, ofNat_b _ (by omega)]
    rw [ok3 _ (by simp) (by omega) (by omega) (by omega) (by omega) (by omega) (by omega) (by omega) (by omega)]
    unfold val3
    rw [b0, b1, b2]
    simp only [List.length_cons, List.length_nil, Prod.mk.injEq]
    refine ⟨by omega, by omega, trivial⟩
  · have b0 : g ([UInt8.ofNat (240 + r.toNat / 262144), UInt8.ofNat (128 + r.toNat / 4096 % 64), UInt8.ofNat (128 + r.toNat / 64 % 64), UInt8.ofNat (128 + r.toNat % 64)] ++ l) 0 = 240 + r.toNat / 262144 := by rw [List.cons_append, g_cons0, ofNat_b _ (by omega)]
    have b1 : g ([UInt8.ofNat (240 + r.toNat / 262144), UInt8.ofNat (128 + r.toNat / 4096 % 64), UInt8.ofNat (128 + r.toNat / 64 % 64), UInt8.ofNat (128 + r.toNat % 64)] ++ l) 1 = 128 + r.toNat / 4096 % 64 := by rw [List.cons_append, List.cons_append, g_cons1, ofNat_b _ (by omega)]
    have b2 : g ([UInt8.ofNat (240 + r.toNat / 262144), UInt8.ofNat (128 + r.toNat / 4096 % 64), UInt8.ofNat (128 + r.toNat / 64 % 64), UInt8.ofNat (128 + r.toNat % 64)] ++ l) 2 = 128 + r.toNat / 64 % 64 := by rw [List.cons_append, List.cons_append, List.cons_append, g_cons2, ofNat_b _ (by omega)]
    have b3 : g ([UInt8.ofNat (240 + r.toNat / 262144), UInt8.ofNat (128 + r.toNat / 4096 % 64), UInt8.ofNat (128 + r.toNat / 64 % 64), UInt8.ofNat (128 + r.toNat % 64)] ++ l) 3 = 128 + r.toNat % 64 := by rw [List.cons_append, List.cons_append, List.cons_append, List.cons_append, g_cons3, ofNat_b _ (by omega)]
    rw [ok4 _ (by simp) (by omega) (by omega) (by omega) (by omega) (by omega) (by omega) (by omega) (by omega) (by omega) (by omega)]
    unfold val4
    rw [b0, b1, b2, b3]
    simp only [List.length_cons, List.length_nil, Prod.mk.injEq]
    refine ⟨by omega, by omega, trivial⟩
theorem enc1 (r : Int) (h0 : 0 ≤ r) (h : r < 128) : enc r = [UInt8.ofNat r.toNat] := by
  rcases enc_cases r ((valid_iff r).mpr (by omega)) with ⟨_, e⟩ | ⟨_, _, e⟩ | ⟨_, _, e⟩ | ⟨_, e⟩
  · exact e
  all_goals omega
theorem enc2 (r : Int) (h0 : 128 ≤ r) (h : r < 2048) : enc r = [UInt8.ofNat (192 + r.toNat / 64), UInt8.ofNat (128 + r.toNat % 64)] := by
  rcases enc_cases r ((valid_iff r).mpr (by omega)) with ⟨_, e⟩ | ⟨_, _, e⟩ | ⟨_, _, e⟩ | ⟨_, e⟩
  · omega
  · exact e
  all_goals omega
theorem enc3 (r : Int) (hv : Lib.validRune r = true) (h0 : 2048 ≤ r) (h : r < 65536) : enc r = [UInt8.ofNat (224 + r.toNat / 4096), UInt8.ofNat (128 + r.toNat / 64 % 64), UInt8.ofNat (128 + r.toNat % 64)] := by
  rcases enc_cases r hv with ⟨_, e⟩ | ⟨_, _, e⟩ | ⟨_, _, e⟩ | ⟨_, e⟩
  · omega
  · omega
  · exact e
  · omega
theorem enc4 (r : Int) (hv : Lib.validRune r = true) (h0 : 65536 ≤ r) : enc r = [UInt8.ofNat (240 + r.toNat / 262144), UInt8.ofNat (128 + r.toNat / 4096 % 64), UInt8.ofNat (128 + r.toNat / 64 % 64), UInt8.ofNat (128 + r.toNat % 64)] := by
  rcases enc_cases r hv with ⟨_, e⟩ | ⟨_, _, e⟩ | ⟨_, _, e⟩ | ⟨_, e⟩
  · omega
  · omega
  · omega
  · exact e
/-- Cut short, it is not whole yet. -/
theorem first_short (r : Int) (hv : Lib.validRune r = true) (k : Nat) (hk : k < (enc r).length) : firstL ((enc r).take k) = (0, 0, 2) := by
  by_cases h0 : k = 0
  · subst h0; rfl
  have hle := enc_len r hv
  have hlen : ((enc r).take k).length = k := by rw [List.length_take]; omega
  have hfull := first_enc r hv []
  rw [List.append_nil] at hfull
  have g0 := g_take (enc r) k 0 (by omega)
  have hg := g_lt (enc r) 0
  have hz := (valid_iff r).mp hv
  have hE : (enc r).length ≠ 0 := by omega
  by_cases h128 : g (enc r) 0 < 128
  · rw [ok1 _ hE h128] at hfull; simp only [Prod.mk.injEq] at hfull; omega
  by_cases h1 : szN (g (enc r) 0) = 1
  · unfold firstL at hfull; rw [if_neg hE, if_neg h128, if_pos h1] at hfull; simp at hfull
  have hsz := sz_cases _ hg (by omega) h1
  rw [firstL_lead _ _ hsz hE (by omega) rfl] at hfull
  rw [firstL_lead _ _ (by rw [g0]; exact hsz) (by omega) (by omega) rfl, hlen, g0]
  unfold leadZ at hfull ⊢
  by_cases n1 : (enc r).length = 1
  · omega
  by_cases c1 : g (enc r) 1 < loN (g (enc r) 0) ∨ hiN (g (enc r) 0) < g (enc r) 1
  · rw [if_neg n1, if_pos c1] at hfull; simp at hfull
  by_cases k1 : k = 1
  · rw [if_pos k1]
  have g1 := g_take (enc r) k 1 (by omega)
  by_cases s2 : szN (g (enc r) 0) = 2
  · rw [if_neg n1, if_neg c1, if_pos s2] at hfull; simp only [Prod.mk.injEq] at hfull; omega
  by_cases n2 : (enc r).length = 2
  · omega
  by_cases c2 : g (enc r) 2 < 128 ∨ 191 < g (enc r) 2
  · rw [if_neg n1, if_neg c1, if_neg s2, if_neg n2, if_pos c2] at hfull; simp at hfull
  by_cases k2 : k = 2
  · rw [if_neg k1, g1, if_neg c1, if_neg s2, if_pos k2]
  have g2 := g_take (enc r) k 2 (by omega)
  by_cases s3 : szN (g (enc r) 0) = 3
  · rw [if_neg n1, if_neg c1, if_neg s2, if_neg n2, if_neg c2, if_pos s3] at hfull; simp only [Prod.mk.injEq] at hfull; omega
  have k3 : k = 3 := by omega
  rw [if_neg k1, g1, if_neg c1, if_neg s2, if_neg k2, g2, if_neg c2, if_neg s3, if_pos k3]
end Go.Proofs.YthipdgnbpdngpaaDoor
end
section
namespace Go.Proofs.YthipdgnbpdngpaaDoor.P
open Go.RowKit Go.Proofs.YthipdgnbpdngpaaDoor Go.Proofs.YthipdgnbpdngpaaDoorW.PrintWords Go.Proofs.YthipdgnbpdngpaaDoorW.PrintLast Go.Proofs.YthipdgnbpdngpaaDoorW.PrintMore
attribute [local go_sem] max2_int min2_int max_two min_two max_three min_three max_four min_four   -- for this text's walks alone
set_option linter.unusedVariables false
set_option linter.unusedSimpArgs false
mutual
def backseatlaw01_UtfBack.j2 : Nat → ByteArray → Option (Bool)
  | 0, _ => none
  | k + 1, x1 => (utf_First.f k x1).bind fun bt141 => (if bt141.2.2 = 0 then ((utf_Text.f bt141.1).bind fun bt144 => ((backseatlaw01_alive.f k).bind fun t146 => (if t146 = true then (if bt144.2 = 0 then (if bt141.2.1 ≤ (x1.size : Int) then (if 0 ≤ bt141.2.1 then (some (bt144.1.toList == (x1.extract 0 (bt141.2.1 : Int).toNat).toList)) else (none)) else (some false)) else (some false)) else (some false)))) else ((backseatlaw01_alive.f k).bind fun t147 => (if t147 = true then (if bt141.1 = 0 then (if bt141.2.2 = 2 then (if bt141.2.1 = 0 then (some true) else (if bt141.2.2 = 4 then (if bt141.2.1 ≥ 1 then (if bt141.2.1 ≤ (x1.size : Int) then ((utf_Valid.f x1).bind fun t148 => (some (!t148))) else (some false)) else (some false)) else (some false))) else (if bt141.2.2 = 4 then (if bt141.2.1 ≥ 1 then (if bt141.2.1 ≤ (x1.size : Int) then ((utf_Valid.f x1).bind fun t149 => (some (!t149))) else (some false)) else (some false)) else (some false))) else (some false)) else (some false))))
def backseatlaw01_UtfBack.j0 : Nat → ByteArray → ByteArray → Bool → Option (Bool)
  | 0, _, _, _ => none
  | k + 1, x1, x5, x56 => if x56 = true then (some false) else (backseatlaw01_UtfBack.l0 k x1 x5 (x5.size : Int) 0)
def backseatlaw01_UtfBack.l0 : Nat → ByteArray → ByteArray → Int → Int → Option (Bool)
  | 0, _, _, _, _ => none
  | k + 1, x1, x5, x58, x59 => if x59 < x58 then (if 0 ≤ x59 then (if x59 ≤ (x5.size : Int) then ((utf_First.f k (x5.extract 0 (x59 : Int).toNat)).bind fun bt138 => (if bt138.2.2 = 2 then (if bt138.2.1 = 0 then (backseatlaw01_UtfBack.l0 k x1 x5 x58 (wrap64 (x59 + 1))) else (some false)) else (some false))) else (none)) else (none)) else (backseatlaw01_UtfBack.j2 k x1)
end
def backseatlaw01_UtfBack.f (k : Nat) (a0 : Int) (a1 : ByteArray) : Option (Bool) := if 0 ≤ (mn (a1.size : Int) 100) then (if (mn (a1.size : Int) 100) ≤ (a1.size : Int) then ((utf_Text.f a0).bind fun bt132 => (if bt132.2 = 0 then (if bt132.1.size + (a1.extract 0 ((mn (a1.size : Int) 100) : Int).toNat).size ≤ 9223372036854775807 then ((utf_First.f k (bt132.1 ++ (a1.extract 0 ((mn (a1.size : Int) 100) : Int).toNat))).bind fun bt134 => (if bt134.2.2 = 0 then (if bt134.1 = a0 then (if bt134.2.1 = (bt132.1.size : Int) then ((utf_Valid.f bt132.1).bind fun t137 => (backseatlaw01_UtfBack.j0 k (a1.extract 0 ((mn (a1.size : Int) 100) : Int).toNat) bt132.1 (!t137))) else (backseatlaw01_UtfBack.j0 k (a1.extract 0 ((mn (a1.size : Int) 100) : Int).toNat) bt132.1 true)) else (backseatlaw01_UtfBack.j0 k (a1.extract 0 ((mn (a1.size : Int) 100) : Int).toNat) bt132.1 true)) else (backseatlaw01_UtfBack.j0 k (a1.extract 0 ((mn (a1.size : Int) 100) : Int).toNat) bt132.1 true))) else (none)) else (backseatlaw01_UtfBack.j2 k (a1.extract 0 ((mn (a1.size : Int) 100) : Int).toNat)))) else (none)) else (none)
theorem backseatlaw01_UtfBack.mono_l : ∀ k, (∀ y0, LeO (backseatlaw01_UtfBack.j2 k y0) (backseatlaw01_UtfBack.j2 (k + 1) y0)) ∧ (∀ y0 y1 y2, LeO (backseatlaw01_UtfBack.j0 k y0 y1 y2) (backseatlaw01_UtfBack.j0 (k + 1) y0 y1 y2)) ∧ (∀ y0 y1 y2 y3, LeO (backseatlaw01_UtfBack.l0 k y0 y1 y2 y3) (backseatlaw01_UtfBack.l0 (k + 1) y0 y1 y2 y3))
  | 0 => ⟨fun _ r h => by simp [backseatlaw01_UtfBack.j2] at h, fun _ _ _ r h => by simp [backseatlaw01_UtfBack.j0] at h, fun _ _ _ _ r h => by simp [backseatlaw01_UtfBack.l0] at h⟩
  | k + 1 => by
    obtain ⟨ih0, ih1, ih2⟩ := backseatlaw01_UtfBack.mono_l k
    refine ⟨?_, ?_, ?_⟩
    · intro y0
      unfold backseatlaw01_UtfBack.j2
      repeat' first
      | (with_reducible exact ih0 _)
      | (with_reducible exact ih1 _ _ _)
      | (with_reducible exact ih2 _ _ _ _)
      | (with_reducible exact backseatlaw01_alive.mono _)
      | (with_reducible exact utf_First.mono _ _)
      | (with_reducible exact LeO.refl _)
      | (with_reducible exact LeO.none _)
      | (with_reducible refine LeO.ite ?_ ?_)
      | (with_reducible refine LeO.bind ?_ (fun _ => ?_))
      | exact ih0 _
      | exact ih1 _ _ _
      | exact ih2 _ _ _ _
      | exact backseatlaw01_alive.mono _
      | exact utf_First.mono _ _
      | exact LeO.none _
      | refine LeO.ite ?_ ?_
      | refine LeO.bind ?_ (fun _ => ?_)
    · intro y0 y1 y2
      unfold backseatlaw01_UtfBack.j0
      repeat' first
      | (with_reducible exact ih0 _)
      | (with_reducible exact ih1 _ _ _)
      | (with_reducible exact ih2 _ _ _ _)
      | (with_reducible exact backseatlaw01_alive.mono _)
      | (with_reducible exact utf_First.mono _ _)
      | (with_reducible exact LeO.refl _)
      | (with_reducible exact LeO.none _)
      | (with_reducible refine LeO.ite ?_ ?_)
      | (with_reducible refine LeO.bind ?_ (fun _ => ?_))
      | exact ih0 _
      | exact ih1 _ _ _
      | exact ih2 _ _ _ _
      | exact backseatlaw01_alive.mono _
      | exact utf_First.mono _ _
      | exact LeO.none _
      | refine LeO.ite ?_ ?_
      | refine LeO.bind ?_ (fun _ => ?_)
    · intro y0 y1 y2 y3
      unfold backseatlaw01_UtfBack.l0
      repeat' first
      | (with_reducible exact ih0 _)
      | (with_reducible exact ih1 _ _ _)
      | (with_reducible exact ih2 _ _ _ _)
      | (with_reducible exact backseatlaw01_alive.mono _)
      | (with_reducible exact utf_First.mono _ _)
      | (with_reducible exact LeO.refl _)
      | (with_reducible exact LeO.none _)
      | (with_reducible refine LeO.ite ?_ ?_)
      | (with_reducible refine LeO.bind ?_ (fun _ => ?_))
      | exact ih0 _
      | exact ih1 _ _ _
      | exact ih2 _ _ _ _
      | exact backseatlaw01_alive.mono _
      | exact utf_First.mono _ _
      | exact LeO.none _
      | refine LeO.ite ?_ ?_
      | refine LeO.bind ?_ (fun _ => ?_)
theorem backseatlaw01_UtfBack.mono : ∀ a0 a1 k, LeO (backseatlaw01_UtfBack.f k a0 a1) (backseatlaw01_UtfBack.f (k + 1) a0 a1) := by
  intro a0 a1 k
  obtain ⟨ih0, ih1, ih2⟩ := backseatlaw01_UtfBack.mono_l k
  unfold backseatlaw01_UtfBack.f
  repeat' first
      | (with_reducible exact ih0 _)
      | (with_reducible exact ih1 _ _ _)
      | (with_reducible exact ih2 _ _ _ _)
      | (with_reducible exact backseatlaw01_alive.mono _)
      | (with_reducible exact utf_First.mono _ _)
      | (with_reducible exact LeO.refl _)
      | (with_reducible exact LeO.none _)
      | (with_reducible refine LeO.ite ?_ ?_)
      | (with_reducible refine LeO.bind ?_ (fun _ => ?_))
      | exact ih0 _
      | exact ih1 _ _ _
      | exact ih2 _ _ _ _
      | exact backseatlaw01_alive.mono _
      | exact utf_First.mono _ _
      | exact LeO.none _
      | refine LeO.ite ?_ ?_
      | refine LeO.bind ?_ (fun _ => ?_)
end Go.Proofs.YthipdgnbpdngpaaDoor.P
end
section
namespace Go.Proofs.YthipdgnbpdngpaaDoor.P
open Go.RowKit Go.Proofs.YthipdgnbpdngpaaDoor Go.Proofs.YthipdgnbpdngpaaDoorW.PrintWords Go.Proofs.YthipdgnbpdngpaaDoorW.PrintLast Go.Proofs.YthipdgnbpdngpaaDoorW.PrintMore
attribute [local go_sem] max2_int min2_int max_two min_two max_three min_three max_four min_four   -- for this text's walks alone
set_option linter.unusedVariables false
set_option linter.unusedSimpArgs false
mutual
def backseatlaw01_UtfGoes.j2 : Nat → ByteArray → ByteArray → ByteArray → ByteArray → Option (Bool)
  | 0, _, _, _, _ => none
  | k + 1, x0, x1, x5, x6 => if (x6.size : Int) > 3 then (backseatlaw01_UtfGoes.j3 k x0 x1 true) else ((utf_Valid.f x5).bind fun t155 => (if t155 = true then ((utf_Valid.f x0).bind fun t156 => (if t156 = true then (if x5.toList = x0.toList then ((backseatlaw01_alive.f k).bind fun t157 => (backseatlaw01_UtfGoes.j3 k x0 x1 (!t157))) else (backseatlaw01_UtfGoes.j3 k x0 x1 true)) else ((backseatlaw01_alive.f k).bind fun t158 => (backseatlaw01_UtfGoes.j3 k x0 x1 (!t158))))) else (backseatlaw01_UtfGoes.j3 k x0 x1 true)))
def backseatlaw01_UtfGoes.j3 : Nat → ByteArray → ByteArray → Bool → Option (Bool)
  | 0, _, _, _ => none
  | k + 1, x0, x1, x80 => if x80 = true then (some false) else ((utf_Valid.f x0).bind fun t159 => (if t159 = true then (if x0.size + x1.size ≤ 9223372036854775807 then ((utf_Valid.f (x0 ++ x1)).bind fun t160 => ((utf_Valid.f x1).bind fun t161 => (some (t160 == t161)))) else (none)) else (some true)))
def backseatlaw01_UtfGoes.l0 : Nat → ByteArray → ByteArray → ByteArray → ByteArray → Option (Bool)
  | 0, _, _, _, _ => none
  | k + 1, x0, x1, x5, x6 => if x6.toList = ([] : List UInt8) then (backseatlaw01_UtfGoes.j2 k x0 x1 x5 x6) else ((utf_First.f k x6).bind fun bt150 => (if bt150.2.2 = 2 then (backseatlaw01_UtfGoes.j2 k x0 x1 x5 x6) else (if bt150.2.1 < 1 then (backseatlaw01_UtfGoes.j1 k x0 x1 x5 x6 bt150.1 bt150.2.1 bt150.2.2 true) else (if bt150.2.1 > 4 then (backseatlaw01_UtfGoes.j1 k x0 x1 x5 x6 bt150.1 bt150.2.1 bt150.2.2 true) else (backseatlaw01_UtfGoes.j1 k x0 x1 x5 x6 bt150.1 bt150.2.1 bt150.2.2 (decide (bt150.2.1 > (x6.size : Int))))))))
def backseatlaw01_UtfGoes.j1 : Nat → ByteArray → ByteArray → ByteArray → ByteArray → Int → Int → Int → Bool → Option (Bool)
  | 0, _, _, _, _, _, _, _, _ => none
  | k + 1, x0, x1, x5, x6, x7, x8, x9, x44 => if x44 = true then (some false) else (if x9 = 0 then ((utf_Text.f x7).bind fun bt153 => (if bt153.2 = 0 then (if x5.size + bt153.1.size ≤ 9223372036854775807 then (if 0 ≤ x8 then (if x8 ≤ (x6.size : Int) then (backseatlaw01_UtfGoes.l0 k x0 x1 (x5 ++ bt153.1) (x6.extract (x8 : Int).toNat x6.size)) else (none)) else (none)) else (none)) else (some false))) else (if 0 ≤ x8 then (if x8 ≤ (x6.size : Int) then (backseatlaw01_UtfGoes.l0 k x0 x1 x5 (x6.extract (x8 : Int).toNat x6.size)) else (none)) else (none)))
end
def backseatlaw01_UtfGoes.f (k : Nat) (a0 : ByteArray) (a1 : ByteArray) : Option (Bool) := if 0 ≤ (mn (a0.size : Int) 100) then (if (mn (a0.size : Int) 100) ≤ (a0.size : Int) then (if 0 ≤ (mn (a1.size : Int) 100) then (if (mn (a1.size : Int) 100) ≤ (a1.size : Int) then (backseatlaw01_UtfGoes.l0 k (a0.extract 0 ((mn (a0.size : Int) 100) : Int).toNat) (a1.extract 0 ((mn (a1.size : Int) 100) : Int).toNat) (⟨#[]⟩ : ByteArray) (a0.extract 0 ((mn (a0.size : Int) 100) : Int).toNat)) else (none)) else (none)) else (none)) else (none)
theorem backseatlaw01_UtfGoes.mono_l : ∀ k, (∀ y0 y1 y2 y3, LeO (backseatlaw01_UtfGoes.j2 k y0 y1 y2 y3) (backseatlaw01_UtfGoes.j2 (k + 1) y0 y1 y2 y3)) ∧ (∀ y0 y1 y2, LeO (backseatlaw01_UtfGoes.j3 k y0 y1 y2) (backseatlaw01_UtfGoes.j3 (k + 1) y0 y1 y2)) ∧ (∀ y0 y1 y2 y3, LeO (backseatlaw01_UtfGoes.l0 k y0 y1 y2 y3) (backseatlaw01_UtfGoes.l0 (k + 1) y0 y1 y2 y3)) ∧ (∀ y0 y1 y2 y3 y4 y5 y6 y7, LeO (backseatlaw01_UtfGoes.j1 k y0 y1 y2 y3 y4 y5 y6 y7) (backseatlaw01_UtfGoes.j1 (k + 1) y0 y1 y2 y3 y4 y5 y6 y7))
  | 0 => ⟨fun _ _ _ _ r h => by simp [backseatlaw01_UtfGoes.j2] at h, fun _ _ _ r h => by simp [backseatlaw01_UtfGoes.j3] at h, fun _ _ _ _ r h => by simp [backseatlaw01_UtfGoes.l0] at h, fun _ _ _ _ _ _ _ _ r h => by simp [backseatlaw01_UtfGoes.j1] at h⟩
  | k + 1 => by
    obtain ⟨ih0, ih1, ih2, ih3⟩ := backseatlaw01_UtfGoes.mono_l k
    refine ⟨?_, ?_, ?_, ?_⟩
    · intro y0 y1 y2 y3
      unfold backseatlaw01_UtfGoes.j2
      repeat' first
      | (with_reducible exact ih0 _ _ _ _)
      | (with_reducible exact ih1 _ _ _)
      | (with_reducible exact ih2 _ _ _ _)
      | (with_reducible exact ih3 _ _ _ _ _ _ _ _)
      | (with_reducible exact backseatlaw01_alive.mono _)
      | (with_reducible exact utf_First.mono _ _)
      | (with_reducible exact LeO.refl _)
      | (with_reducible exact LeO.none _)
      | (with_reducible refine LeO.ite ?_ ?_)
      | (with_reducible refine LeO.bind ?_ (fun _ => ?_))
      | exact ih0 _ _ _ _
      | exact ih1 _ _ _
      | exact ih2 _ _ _ _
      | exact ih3 _ _ _ _ _ _ _ _
      | exact backseatlaw01_alive.mono _
      | exact utf_First.mono _ _
      | exact LeO.none _
      | refine LeO.ite ?_ ?_
      | refine LeO.bind ?_ (fun _ => ?_)
    · intro y0 y1 y2
      unfold backseatlaw01_UtfGoes.j3
      repeat' first
      | (with_reducible exact ih0 _ _ _ _)
      | (with_reducible exact ih1 _ _ _)
      | (with_reducible exact ih2 _ _ _ _)
      | (with_reducible exact ih3 _ _ _ _ _ _ _ _)
      | (with_reducible exact backseatlaw01_alive.mono _)
      | (with_reducible exact utf_First.mono _ _)
      | (with_reducible exact LeO.refl _)
      | (with_reducible exact LeO.none _)
      | (with_reducible refine LeO.ite ?_ ?_)
      | (with_reducible refine LeO.bind ?_ (fun _ => ?_))
      | exact ih0 _ _ _ _
      | exact ih1 _ _ _
      | exact ih2 _ _ _ _
      | exact ih3 _ _ _ _ _ _ _ _
      | exact backseatlaw01_alive.mono _
      | exact utf_First.mono _ _
      | exact LeO.none _
      | refine LeO.ite ?_ ?_
      | refine LeO.bind ?_ (fun _ => ?_)
    · intro y0 y1 y2 y3
      unfold backseatlaw01_UtfGoes.l0
      repeat' first
      | (with_reducible exact ih0 _ _ _ _)
      | (with_reducible exact ih1 _ _ _)
      | (with_reducible exact ih2 _ _ _ _)
      | (with_reducible exact ih3 _ _ _ _ _ _ _ _)
      | (with_reducible exact backseatlaw01_alive.mono _)
      | (with_reducible exact utf_First.mono _ _)
      | (with_reducible exact LeO.refl _)
      | (with_reducible exact LeO.none _)
      | (with_reducible refine LeO.ite ?_ ?_)
      | (with_reducible refine LeO.bind ?_ (fun _ => ?_))
      | exact ih0 _ _ _ _
      | exact ih1 _ _ _
      | exact ih2 _ _ _ _
      | exact ih3 _ _ _ _ _ _ _ _
      | exact backseatlaw01_alive.mono _
      | exact utf_First.mono _ _
      | exact LeO.none _
      | refine LeO.ite ?_ ?_
      | refine LeO.bind ?_ (fun _ => ?_)
    · intro y0 y1 y2 y3 y4 y5 y6 y7
      unfold backseatlaw01_UtfGoes.j1
      repeat' first
      | (with_reducible exact ih0 _ _ _ _)
      | (with_reducible exact ih1 _ _ _)
      | (with_reducible exact ih2 _ _ _ _)
      | (with_reducible exact ih3 _ _ _ _ _ _ _ _)
      | (with_reducible exact backseatlaw01_alive.mono _)
      | (with_reducible exact utf_First.mono _ _)
      | (with_reducible exact LeO.refl _)
      | (with_reducible exact LeO.none _)
      | (with_reducible refine LeO.ite ?_ ?_)
      | (with_reducible refine LeO.bind ?_ (fun _ => ?_))
      | exact ih0 _ _ _ _
      | exact ih1 _ _ _
      | exact ih2 _ _ _ _
      | exact ih3 _ _ _ _ _ _ _ _
      | exact backseatlaw01_alive.mono _
      | exact utf_First.mono _ _
      | exact LeO.none _
      | refine LeO.ite ?_ ?_
      | refine LeO.bind ?_ (fun _ => ?_)
theorem backseatlaw01_UtfGoes.mono : ∀ a0 a1 k, LeO (backseatlaw01_UtfGoes.f k a0 a1) (backseatlaw01_UtfGoes.f (k + 1) a0 a1) := by
  intro a0 a1 k
  obtain ⟨ih0, ih1, ih2, ih3⟩ := backseatlaw01_UtfGoes.mono_l k
  unfold backseatlaw01_UtfGoes.f
  repeat' first
      | (with_reducible exact ih0 _ _ _ _)
      | (with_reducible exact ih1 _ _ _)
      | (with_reducible exact ih2 _ _ _ _)
      | (with_reducible exact ih3 _ _ _ _ _ _ _ _)
      | (with_reducible exact backseatlaw01_alive.mono _)
      | (with_reducible exact utf_First.mono _ _)
      | (with_reducible exact LeO.refl _)
      | (with_reducible exact LeO.none _)
      | (with_reducible refine LeO.ite ?_ ?_)
      | (with_reducible refine LeO.bind ?_ (fun _ => ?_))
      | exact ih0 _ _ _ _
      | exact ih1 _ _ _
      | exact ih2 _ _ _ _
      | exact ih3 _ _ _ _ _ _ _ _
      | exact backseatlaw01_alive.mono _
      | exact utf_First.mono _ _
      | exact LeO.none _
      | refine LeO.ite ?_ ?_
      | refine LeO.bind ?_ (fun _ => ?_)
end Go.Proofs.YthipdgnbpdngpaaDoor.P
end
section
namespace Go.Proofs.YthipdgnbpdngpaaDoor
open Go.RowKit Go.Lib Go.Proofs.YthipdgnbpdngpaaDoorW.PrintWords Go.Proofs.YthipdgnbpdngpaaDoorW.PrintLast Go.Proofs.YthipdgnbpdngpaaDoorW.PrintMore Go.Proofs.YthipdgnbpdngpaaDoor.P
theorem ba_ext (a b : ByteArray) (h : a.data.toList = b.data.toList) : a = b := ByteArray.ext (Array.ext' h)
theorem enc_size (r : Int) : (Utf8.encode r).size = (enc r).length := (len_size _).symm
end Go.Proofs.YthipdgnbpdngpaaDoor
end
section
namespace Go.Proofs.YthipdgnbpdngpaaDoor.P
open Go.RowKit Go.Proofs.YthipdgnbpdngpaaDoor Go.Proofs.YthipdgnbpdngpaaDoorW.PrintWords Go.Proofs.YthipdgnbpdngpaaDoorW.PrintLast Go.Proofs.YthipdgnbpdngpaaDoorW.PrintMore
attribute [local go_sem] max2_int min2_int max_two min_two max_three min_three max_four min_four   -- for this text's walks alone
set_option linter.unusedVariables false
set_option linter.unusedSimpArgs false
def backseatref01_Is.f (a0 : Int) : Option (Bool) := if a0 ≥ 0 then (if a0 ≤ 1114111 then (if a0 < 55296 then (some true) else (some (decide (a0 > 57343)))) else (some false)) else (some false)
set_option maxHeartbeats 8000000 in
set_option maxRecDepth 100000 in
theorem backseatref01_Is.calls (a0 : Int) (r : Bool) (w : World) (h : backseatref01_Is.f a0 = some r) :
    Calls Tryd.prog 20 #[.int .i32 a0] w fun e w' => e = .returned (.bool r) ∧ Drawn0 w w' := by
  have H : (if a0 ≥ 0 then (if a0 ≤ 1114111 then (if a0 < 55296 then (some true) else (some (decide (a0 > 57343)))) else (some false)) else (some false)) = some r := h
  clear h
  by_cases c2 : a0 ≥ 0
  · rw [if_pos c2] at H
    have c2b0 : decide (0 ≤ a0) = true := decide_eq_true c2
    clear c2
    by_cases c3 : a0 ≤ 1114111
    · rw [if_pos c3] at H
      have c3b0 : decide (a0 ≤ 1114111) = true := decide_eq_true c3
      clear c3
      by_cases c4 : a0 < 55296
      · rw [if_pos c4] at H
        have c4b0 : decide (a0 < 55296) = true := decide_eq_true c4
        clear c4
        obtain rfl := Option.some.inj H
        go_enter Tryd.func20, Tryd.ntmps20
        go_wp2
        go_ret
        exact ⟨by first | rfl | (simp; done) | (simp [*]; done), by repeat (first | exact Drawn0.refl _ | apply Drawn0.step)⟩
      · rw [if_neg c4] at H
        have c4b0 : decide (a0 < 55296) = false := decide_eq_false c4
        clear c4
        obtain rfl := Option.some.inj H
        go_enter Tryd.func20, Tryd.ntmps20
        go_wp2
        go_ret
        exact ⟨by first | rfl | (simp; done) | (simp [*]; done), by repeat (first | exact Drawn0.refl _ | apply Drawn0.step)⟩
    · rw [if_neg c3] at H
      have c3b0 : decide (a0 ≤ 1114111) = false := decide_eq_false c3
      clear c3
      obtain rfl := Option.some.inj H
      go_enter Tryd.func20, Tryd.ntmps20
      go_wp2
      go_ret
      exact ⟨by first | rfl | (simp; done) | (simp [*]; done), by repeat (first | exact Drawn0.refl _ | apply Drawn0.step)⟩
  · rw [if_neg c2] at H
    have c2b0 : decide (0 ≤ a0) = false := decide_eq_false c2
    clear c2
    obtain rfl := Option.some.inj H
    go_enter Tryd.func20, Tryd.ntmps20
    go_wp2
    go_ret
    exact ⟨by first | rfl | (simp; done) | (simp [*]; done), by repeat (first | exact Drawn0.refl _ | apply Drawn0.step)⟩
def backseatref01_in.f (a0 : Int) (a1 : Int) (a2 : Int) : Option (Bool) := if a0 ≥ a1 then (some (decide (a0 ≤ a2))) else (some false)
mutual
def backseatref01_Width.j0 : Nat → Int → Bool → Option (Int)
  | 0, _, _ => none
  | k + 1, x0, x13 => if x13 = true then (some (-1)) else ((backseatref01_in.f x0 768 879).bind fun t164 => (if t164 = true then (backseatref01_Width.j1 k x0 true) else ((backseatref01_in.f x0 8203 8205).bind fun t165 => (if t165 = true then (backseatref01_Width.j1 k x0 true) else ((backseatref01_in.f x0 65024 65039).bind fun t166 => (backseatref01_Width.j1 k x0 t166))))))
def backseatref01_Width.j1 : Nat → Int → Bool → Option (Int)
  | 0, _, _ => none
  | k + 1, x0, x23 => if x23 = true then (some 0) else ((backseatref01_in.f x0 4352 4447).bind fun t167 => (if t167 = true then (backseatref01_Width.j2 k x0 true) else ((backseatref01_in.f x0 12353 19903).bind fun t168 => (if t168 = true then (backseatref01_Width.j2 k x0 true) else ((backseatref01_in.f x0 19968 40959).bind fun t169 => (if t169 = true then (backseatref01_Width.j2 k x0 true) else ((backseatref01_in.f x0 44032 55203).bind fun t170 => (backseatref01_Width.j2 k x0 t170))))))))
def backseatref01_Width.j2 : Nat → Int → Bool → Option (Int)
  | 0, _, _ => none
  | k + 1, x0, x37 => if x37 = true then (some 2) else ((backseatref01_in.f x0 63744 64255).bind fun t171 => (if t171 = true then (some 2) else ((backseatref01_in.f x0 65281 65376).bind fun t172 => (if t172 = true then (some 2) else ((backseatref01_in.f x0 127744 129791).bind fun t173 => (if t173 = true then (some 2) else ((backseatref01_in.f x0 131072 262141).bind fun t174 => (if t174 = true then (some 2) else (some 1)))))))))
end
def backseatref01_Width.f (k : Nat) (a0 : Int) : Option (Int) := (backseatref01_Is.f a0).bind fun t162 => (if t162 = true then (if a0 < 32 then (backseatref01_Width.j0 k a0 true) else ((backseatref01_in.f a0 127 159).bind fun t163 => (backseatref01_Width.j0 k a0 t163))) else (backseatref01_Width.j0 k a0 true))
theorem backseatref01_Width.mono_l : ∀ k, (∀ y0 y1, LeO (backseatref01_Width.j0 k y0 y1) (backseatref01_Width.j0 (k + 1) y0 y1)) ∧ (∀ y0 y1, LeO (backseatref01_Width.j1 k y0 y1) (backseatref01_Width.j1 (k + 1) y0 y1)) ∧ (∀ y0 y1, LeO (backseatref01_Width.j2 k y0 y1) (backseatref01_Width.j2 (k + 1) y0 y1))
  | 0 => ⟨fun _ _ r h => by simp [backseatref01_Width.j0] at h, fun _ _ r h => by simp [backseatref01_Width.j1] at h, fun _ _ r h => by simp [backseatref01_Width.j2] at h⟩
  | k + 1 => by
    obtain ⟨ih0, ih1, ih2⟩ := backseatref01_Width.mono_l k
    refine ⟨?_, ?_, ?_⟩
    · intro y0 y1
      unfold backseatref01_Width.j0
      repeat' first
      | (with_reducible exact ih0 _ _)
      | (with_reducible exact ih1 _ _)
      | (with_reducible exact ih2 _ _)
      | (with_reducible exact LeO.refl _)
      | (with_reducible exact LeO.none _)
      | (with_reducible refine LeO.ite ?_ ?_)
      | (with_reducible refine LeO.bind ?_ (fun _ => ?_))
      | exact ih0 _ _
      | exact ih1 _ _
      | exact ih2 _ _
      | exact LeO.none _
      | refine LeO.ite ?_ ?_
      | refine LeO.bind ?_ (fun _ => ?_)
    · intro y0 y1
      unfold backseatref01_Width.j1
      repeat' first
      | (with_reducible exact ih0 _ _)
      | (with_reducible exact ih1 _ _)
      | (with_reducible exact ih2 _ _)
      | (with_reducible exact LeO.refl _)
      | (with_reducible exact LeO.none _)
      | (with_reducible refine LeO.ite ?_ ?_)
      | (with_reducible refine LeO.bind ?_ (fun _ => ?_))
      | exact ih0 _ _
      | exact ih1 _ _
      | exact ih2 _ _
      | exact LeO.none _
      | refine LeO.ite ?_ ?_
      | refine LeO.bind ?_ (fun _ => ?_)
    · intro y0 y1
      unfold backseatref01_Width.j2
      repeat' first
      | (with_reducible exact ih0 _ _)
      | (with_reducible exact ih1 _ _)
      | (with_reducible exact ih2 _ _)
      | (with_reducible exact LeO.refl _)
      | (with_reducible exact LeO.none _)
      | (with_reducible refine LeO.ite ?_ ?_)
      | (with_reducible refine LeO.bind ?_ (fun _ => ?_))
      | exact ih0 _ _
      | exact ih1 _ _
      | exact ih2 _ _
      | exact LeO.none _
      | refine LeO.ite ?_ ?_
      | refine LeO.bind ?_ (fun _ => ?_)
theorem backseatref01_Width.mono : ∀ a0 k, LeO (backseatref01_Width.f k a0) (backseatref01_Width.f (k + 1) a0) := by
  intro a0 k
  obtain ⟨ih0, ih1, ih2⟩ := backseatref01_Width.mono_l k
  unfold backseatref01_Width.f
  repeat' first
      | (with_reducible exact ih0 _ _)
      | (with_reducible exact ih1 _ _)
      | (with_reducible exact ih2 _ _)
      | (with_reducible exact LeO.refl _)
      | (with_reducible exact LeO.none _)
      | (with_reducible refine LeO.ite ?_ ?_)
      | (with_reducible refine LeO.bind ?_ (fun _ => ?_))
      | exact ih0 _ _
      | exact ih1 _ _
      | exact ih2 _ _
      | exact LeO.none _
      | refine LeO.ite ?_ ?_
      | refine LeO.bind ?_ (fun _ => ?_)
def backseatref01_Size.f (a0 : Int) : Option (Int) := if a0 < 128 then (some 1) else (if a0 < 2048 then (some 2) else (if a0 < 65536 then (some 3) else (some 4)))
set_option maxHeartbeats 8000000 in
set_option maxRecDepth 100000 in
theorem backseatref01_Size.calls (a0 : Int) (r : Int) (w : World) (h : backseatref01_Size.f a0 = some r) :
    Calls Tryd.prog 51 #[.int .i32 a0] w fun e w' => e = .returned (.int .i64 r) ∧ Drawn0 w w' := by
  have H : (if a0 < 128 then (some 1) else (if a0 < 2048 then (some 2) else (if a0 < 65536 then (some 3) else (some 4)))) = some r := h
  clear h
  by_cases c2 : a0 < 128
  · rw [if_pos c2] at H
    have c2b0 : decide (a0 < 128) = true := decide_eq_true c2
    clear c2
    obtain rfl := Option.some.inj H
    go_enter Tryd.func51, Tryd.ntmps51
    go_wp2
    go_ret
    exact ⟨by first | rfl | (simp; done) | (simp [*]; done), by repeat (first | exact Drawn0.refl _ | apply Drawn0.step)⟩
  · rw [if_neg c2] at H
    have c2b0 : decide (a0 < 128) = false := decide_eq_false c2
    clear c2
    by_cases c3 : a0 < 2048
    · rw [if_pos c3] at H
      have c3b0 : decide (a0 < 2048) = true := decide_eq_true c3
      clear c3
      obtain rfl := Option.some.inj H
      go_enter Tryd.func51, Tryd.ntmps51
      go_wp2
      go_ret
      exact ⟨by first | rfl | (simp; done) | (simp [*]; done), by repeat (first | exact Drawn0.refl _ | apply Drawn0.step)⟩
    · rw [if_neg c3] at H
      have c3b0 : decide (a0 < 2048) = false := decide_eq_false c3
      clear c3
      by_cases c4 : a0 < 65536
      · rw [if_pos c4] at H
        have c4b0 : decide (a0 < 65536) = true := decide_eq_true c4
        clear c4
        obtain rfl := Option.some.inj H
        go_enter Tryd.func51, Tryd.ntmps51
        go_wp2
        go_ret
        exact ⟨by first | rfl | (simp; done) | (simp [*]; done), by repeat (first | exact Drawn0.refl _ | apply Drawn0.step)⟩
      · rw [if_neg c4] at H
        have c4b0 : decide (a0 < 65536) = false := decide_eq_false c4
        clear c4
        obtain rfl := Option.some.inj H
        go_enter Tryd.func51, Tryd.ntmps51
        go_wp2
        go_ret
        exact ⟨by first | rfl | (simp; done) | (simp [*]; done), by repeat (first | exact Drawn0.refl _ | apply Drawn0.step)⟩
end Go.Proofs.YthipdgnbpdngpaaDoor.P
end
section
namespace Go.Proofs.YthipdgnbpdngpaaDoor
open Go.RowKit Go.Lib Go.Proofs.YthipdgnbpdngpaaDoorW.PrintWords Go.Proofs.YthipdgnbpdngpaaDoorW.PrintLast
/-- Is a number in a span? -/
def inSpan (r : Int) (x : Int × Int) : Bool := decide (x.1 ≤ r) && decide (r ≤ x.2)
def zeroL : List (Int × Int) := [(768, 879), (8203, 8205), (65024, 65039)]
def wideL : List (Int × Int) := [(4352, 4447), (12353, 19903), (19968, 40959), (44032, 55203), (63744, 64255), (65281, 65376), (127744, 129791), (131072, 262141)]
/-- How many cells a number takes. -/
def widthZ (r : Int) : Int :=
  if Lib.validRune r = false ∨ r < 32 ∨ (127 ≤ r ∧ r < 160) then -1 else if zeroL.any (inSpan r) = true then 0 else if wideL.any (inSpan r) = true then 2 else 1
def utf_Width.f (a0 : Int) : Option Int := some (widthZ a0)
end Go.Proofs.YthipdgnbpdngpaaDoor
end
section
namespace Go.Proofs.YthipdgnbpdngpaaDoor.P
open Go.RowKit Go.Proofs.YthipdgnbpdngpaaDoor Go.Proofs.YthipdgnbpdngpaaDoorW.PrintWords Go.Proofs.YthipdgnbpdngpaaDoorW.PrintLast Go.Proofs.YthipdgnbpdngpaaDoorW.PrintMore
attribute [local go_sem] max2_int min2_int max_two min_two max_three min_three max_four min_four   -- for this text's walks alone
set_option linter.unusedVariables false
set_option linter.unusedSimpArgs false
def backseatref01_Text.l0 : Nat → Int → Int → List Int → Int → Option (ByteArray)
  | 0, _, _, _, _ => none
  | k + 1, x0, x3, x4, x5 => if x5 < x3 then ((some (([(wrap32 (128 + (Int.tmod x0 64))) % 256] : List Int) : List Int)).bind fun y182 => (if y182.length + x4.length < 140737488355328 then (backseatref01_Text.l0 k (wrap32 (Int.tdiv x0 64)) x3 (y182 ++ x4) (wrap64 (x5 + 1))) else (none))) else ((some (([0, 0, 192, 224, 240] : List Int) : List Int)).bind fun y188 => (if 0 ≤ x3 then (if x3 < (y188.length : Int) then ((some (([(wrap64 ((rd y188 x3) + (wrap64 (x0)))) % 256] : List Int) : List Int)).bind fun y192 => (if y192.length + x4.length < 140737488355328 then (some (strOfNums (y192 ++ x4))) else (none))) else (none)) else (none)))
def backseatref01_Text.f (k : Nat) (a0 : Int) : Option (ByteArray) := (backseatref01_Size.f a0).bind fun t175 => (if t175 = 1 then (some (strOfNums (([(a0) % 256] : List Int)))) else (backseatref01_Text.l0 k a0 t175 (([] : List Int)) 1))
theorem backseatref01_Text.mono_l : ∀ k, (∀ y0 y1 y2 y3, LeO (backseatref01_Text.l0 k y0 y1 y2 y3) (backseatref01_Text.l0 (k + 1) y0 y1 y2 y3))
  | 0 => fun _ _ _ _ r h => by simp [backseatref01_Text.l0] at h
  | k + 1 => by
    have ih0 := backseatref01_Text.mono_l k
    · intro y0 y1 y2 y3
      unfold backseatref01_Text.l0
      repeat' first
      | (with_reducible exact ih0 _ _ _ _)
      | (with_reducible exact LeO.refl _)
      | (with_reducible exact LeO.none _)
      | (with_reducible refine LeO.ite ?_ ?_)
      | (with_reducible refine LeO.bind ?_ (fun _ => ?_))
      | exact ih0 _ _ _ _
      | exact LeO.none _
      | refine LeO.ite ?_ ?_
      | refine LeO.bind ?_ (fun _ => ?_)
theorem backseatref01_Text.mono : ∀ a0 k, LeO (backseatref01_Text.f k a0) (backseatref01_Text.f (k + 1) a0) := by
  intro a0 k
  have ih0 := backseatref01_Text.mono_l k
  unfold backseatref01_Text.f
  repeat' first
      | (with_reducible exact ih0 _ _ _ _)
      | (with_reducible exact LeO.refl _)
      | (with_reducible exact LeO.none _)
      | (with_reducible refine LeO.ite ?_ ?_)
      | (with_reducible refine LeO.bind ?_ (fun _ => ?_))
      | exact ih0 _ _ _ _
      | exact LeO.none _
      | refine LeO.ite ?_ ?_
      | refine LeO.bind ?_ (fun _ => ?_)
set_option maxHeartbeats 8000000 in
set_option maxRecDepth 100000 in
theorem backseatref01_Text.calls (k : Nat) (a0 : Int) (r : ByteArray) (w : World) (h : backseatref01_Text.f k a0 = some r) :
    Calls Tryd.prog 21 #[.int .i32 a0] w fun e w' => e = .returned (.string r) ∧ Below w.heap.size w w' := by
  have HB := Aside0.mk (Below.refl w.heap.size w)
  have H : ((backseatref01_Size.f a0).bind fun t175 => (if t175 = 1 then (some (strOfNums (([(a0) % 256] : List Int)))) else (backseatref01_Text.l0 k a0 t175 (([] : List Int)) 1))) = some r := h
  clear h
  replace H := Option.bind_eq_some_iff.mp H
  obtain ⟨t175, A20, H⟩ := H
  replace H : (if t175 = 1 then (some (strOfNums (([(a0) % 256] : List Int)))) else (backseatref01_Text.l0 k a0 t175 (([] : List Int)) 1)) = some r := H
  have A2 := Aside0.mk A20
  clear A20
  by_cases c3 : t175 = 1
  · rw [if_pos c3] at H
    have c3b0 : (t175 == 1) = true := beq_iff_eq.mpr c3
    have c3b1 : (t175 != 1) = false := bne_eq_false_iff_eq.mpr c3
    clear c3
    obtain ⟨y176, hy176⟩ : ∃ y_ : List Int, y_ = (([(a0) % 256] : List Int)) := ⟨_, rfl⟩
    replace H : (some (strOfNums y176)) = some r := by first | (rw [hy176]; with_reducible exact H) | (have H2_ := (Option.bind_some _ _).symm.trans H; rw [hy176]; with_reducible exact H2_) | (have H2_ := (Option.bind_some _ _).symm.trans H; with_reducible exact H2_) | with_reducible exact H | (rw [hy176]; exact H) | exact H
    have Ny176 := Aside0.mk hy176
    clear hy176
    obtain rfl := Option.some.inj H
    go_enter Tryd.func21, Tryd.ntmps21
    go_wp2_with (first | ((with_reducible refine gate_callee (f := 51) rfl ?_); refine goesL_ (some 10) rfl rfl Tryd.func51 (by kernel_rfl) rfl #[.int .i32 a0] rfl (by (try simp only [List.map_toArray, List.map_cons, List.map_nil]); first | done | rfl | (simp only [List.length_drop, List.length_take]; rfl)) ?_; (with_reducible refine (backseatref01_Size.calls a0 t175 _ A2.out).mono ?_); rintro e w' ⟨rfl, ⟨nd, rfl⟩⟩; refine ⟨_, rfl, ?_⟩) | ((with_reducible refine gate_dst (N := 15) rfl ?_); refine Kd.R_lit (Kd.int .u8) _ 5 ?hg (N := 15) ?hd (xs := ([(a0) % 256] : List Int)) (inner := [.int .u8 ((a0) % 256)]) (ok := fun _ => True) (okp := fun _ => True) ?hr ?hp (fun _ hk => hk) trivial (Below.refl _ _) (Nat.le_refl _) (by simp) ?_; (case hd => rfl); (case hg => rfl); (case hr => first | (go_simp; done) | (go_simp; rfl)); (case hp => exact (Reps.one (show Kd.M (Kd.int .u8) _ _ _ ((a0) % 256) [.int .u8 ((a0) % 256)] from rfl) (Reps.none _ _))); intro v177 w4 ho5 hb hg_ hnew_; clear hg_ hnew_; (first | rw [← Ny176.out] at ho5 | (simp only [Int.reduceToNat] at ho5; rw [← Ny176.out] at ho5)); have n0_ := Aside0.mk (Kd.R_lower ho5 (below_size (by repeat (first | (with_reducible first | exact HB.out | apply below_alloc | apply pw_below_drewN | apply below_drew1) | exact HB.out)))); have n1_ := Aside0.mk (below_step (by repeat (first | (with_reducible first | exact HB.out | apply below_alloc | apply pw_below_drewN | apply below_drew1) | exact HB.out)) hb); clear HB; have HO178 := n0_; have HB := n1_; clear n0_ n1_; clear hb ho5; have hcv6 := own_string (P := Tryd.prog) Tryd.underlying67 Tryd.underlying5 Tryd.underlying9 (Kd.own_of_R HO178.out)))
    go_ret
    exact ⟨by first | rfl | (simp [errW_none, errW_some] <;> rfl) | (simp [*, errW_none, errW_some] <;> rfl), by repeat (first | (with_reducible first | exact HB.out | apply below_alloc | apply pw_below_drewN | apply below_drew1) | exact HB.out)⟩
  · rw [if_neg c3] at H
    have c3b0 : (t175 == 1) = false := beq_eq_false_iff_ne.mpr c3
    have c3b1 : (t175 != 1) = true := bne_iff_ne.mpr c3
    obtain ⟨y179, hy179⟩ : ∃ y_ : List Int, y_ = (([] : List Int)) := ⟨_, rfl⟩
    replace H : (backseatref01_Text.l0 k a0 t175 y179 1) = some r := by first | (rw [hy179]; with_reducible exact H) | (have H2_ := (Option.bind_some _ _).symm.trans H; rw [hy179]; with_reducible exact H2_) | (have H2_ := (Option.bind_some _ _).symm.trans H; with_reducible exact H2_) | with_reducible exact H | (rw [hy179]; exact H) | exact H
    have Ny179 := Aside0.mk hy179
    clear hy179
    have H' := Aside0.mk H
    clear H
    go_enter Tryd.func21, Tryd.ntmps21
    go_wp2_with (first | ((with_reducible refine gate_callee (f := 51) rfl ?_); refine goesL_ (some 10) rfl rfl Tryd.func51 (by kernel_rfl) rfl #[.int .i32 a0] rfl (by (try simp only [List.map_toArray, List.map_cons, List.map_nil]); first | done | rfl | (simp only [List.length_drop, List.length_take]; rfl)) ?_; (with_reducible refine (backseatref01_Size.calls a0 t175 _ A2.out).mono ?_); rintro e w' ⟨rfl, ⟨nd, rfl⟩⟩; refine ⟨_, rfl, ?_⟩) | ((with_reducible refine gate_dst (N := 17) rfl ?_); refine Kd.R_lit (Kd.int .u8) _ 5 ?hg (N := 17) ?hd (xs := ([] : List Int)) (inner := []) (ok := fun _ => True) (okp := fun _ => True) ?hr ?hp (fun _ hk => hk) trivial (Below.refl _ _) (Nat.le_refl _) (by simp) ?_; (case hd => rfl); (case hg => rfl); (case hr => first | (go_simp; done) | (go_simp; rfl)); (case hp => exact (Reps.none _ _)); intro v180 w7 ho8 hb hg_ hnew_; clear hg_ hnew_; (first | rw [← Ny179.out] at ho8 | (simp only [Int.reduceToNat] at ho8; rw [← Ny179.out] at ho8)); have n0_ := Aside0.mk (Kd.R_lower ho8 (below_size (by repeat (first | (with_reducible first | exact HB.out | apply below_alloc | apply pw_below_drewN | apply below_drew1) | exact HB.out)))); have n1_ := Aside0.mk (below_step (by repeat (first | (with_reducible first | exact HB.out | apply below_alloc | apply pw_below_drewN | apply below_drew1) | exact HB.out)) hb); clear HB; have HO181 := n0_; have HB := n1_; clear n0_ n1_; clear hb ho8))
    go_loopg [0, 4, 5] k (fun kq v0 v4 v5 w' => ∃ (x0_1 : Int) (x4_1 : List Int) (x5_1 : Int), v0 = .int .i32 x0_1 ∧ v5 = .int .i64 x5_1 ∧ Aside0 (backseatref01_Text.l0 kq x0_1 t175 x4_1 x5_1 = some r) ∧ Aside0 (kq ≤ k) ∧ Aside0 (Kd.R (Kd.int .u8) 5 w' w.heap.size (fun _ => True) v4 x4_1) ∧ Aside0 (Below w.heap.size w w'))
    case atStart => exact ⟨(a0), (y179), (1), (by first | rfl | (simp; done) | (simp [*]; done)), (by first | rfl | (simp; done) | (simp [*]; done)), H', ⟨Nat.le_refl _⟩, ⟨by (with_reducible repeat (first | apply Kd.R_alloc | apply Kd.R_drewN | apply Kd.R_drew)); exact HO181.out⟩, ⟨by repeat (first | (with_reducible first | exact HB.out | apply below_alloc | apply pw_below_drewN | apply below_drew1) | exact HB.out)⟩⟩
    case round =>
      clear H'
      try clear c2
      try clear p2
      try clear c3
      try clear c3b0
      try clear c3b1
      try clear c5
      try clear hcv6
      obtain ⟨x0_1, x4_1, x5_1, rfl, rfl, HA, HK1, HO_4, HB⟩ := hrel
      cases gk with
      | zero => exact absurd HA.out (by simp [backseatref01_Text.l0])
      | succ k1 =>
        have H := HA.out
        clear HA
        simp only [backseatref01_Text.l0] at H
        by_cases c9 : x5_1 < t175
        · rw [if_pos c9] at H
          have c9b0 : decide (x5_1 < t175) = true := decide_eq_true c9
          clear c9
          obtain ⟨y182, hy182⟩ : ∃ y_ : List Int, y_ = (([(wrap32 (128 + (Int.tmod x0_1 64))) % 256] : List Int)) := ⟨_, rfl⟩
          replace H : (if y182.length + x4_1.length < 140737488355328 then (backseatref01_Text.l0 k1 (wrap32 (Int.tdiv x0_1 64)) t175 (y182 ++ x4_1) (wrap64 (x5_1 + 1))) else (none)) = some r := by first | (rw [hy182]; with_reducible exact H) | (have H2_ := (Option.bind_some _ _).symm.trans H; rw [hy182]; with_reducible exact H2_) | (have H2_ := (Option.bind_some _ _).symm.trans H; with_reducible exact H2_) | with_reducible exact H | (rw [hy182]; exact H) | exact H
          have Ny182 := Aside0.mk hy182
          clear hy182
          by_cases c10 : y182.length + x4_1.length < 140737488355328
          · rw [if_pos c10] at H
            have LMc10 := Aside0.mk c10
            clear c10
            obtain ⟨y185, hy185⟩ : ∃ y_ : List Int, y_ = (y182 ++ x4_1) := ⟨_, rfl⟩
            replace H : (backseatref01_Text.l0 k1 (wrap32 (Int.tdiv x0_1 64)) t175 y185 (wrap64 (x5_1 + 1))) = some r := by first | (rw [hy185]; with_reducible exact H) | (have H2_ := (Option.bind_some _ _).symm.trans H; rw [hy185]; with_reducible exact H2_) | (have H2_ := (Option.bind_some _ _).symm.trans H; with_reducible exact H2_) | with_reducible exact H | (rw [hy185]; exact H) | exact H
            have Ny185 := Aside0.mk hy185
            clear hy185
            have H' := Aside0.mk H
            clear H
            go_wp2_with (first | ((with_reducible refine gate_dst (N := 27) rfl ?_); refine Kd.R_lit (Kd.int .u8) _ 5 ?hg (N := 27) ?hd (xs := ([(wrap32 (128 + (Int.tmod x0_1 64))) % 256] : List Int)) (inner := [.int .u8 ((wrap32 (128 + (Int.tmod x0_1 64))) % 256)]) (ok := fun _ => True) (okp := fun _ => True) ?hr ?hp (fun _ hk => hk) trivial (Below.refl _ _) (Nat.le_refl _) (by simp) ?_; (case hd => rfl); (case hg => rfl); (case hr => first | (go_simp; done) | (go_simp; rfl)); (case hp => exact (Reps.one (show Kd.M (Kd.int .u8) _ _ _ ((wrap32 (128 + (Int.tmod x0_1 64))) % 256) [.int .u8 ((wrap32 (128 + (Int.tmod x0_1 64))) % 256)] from rfl) (Reps.none _ _))); intro v183 w11 ho12 hb hg_ hnew_; clear hg_ hnew_; (first | rw [← Ny182.out] at ho12 | (simp only [Int.reduceToNat] at ho12; rw [← Ny182.out] at ho12)); have n0_ := Aside0.mk (Kd.R_elder' (by (with_reducible repeat (first | apply Kd.R_alloc | apply Kd.R_drewN | apply Kd.R_drew)); exact HO_4.out) (Kd.R_base ho12) hb); have n1_ := Aside0.mk (Kd.R_lower (Kd.R_new' ho12 (Kd.R_lt (by (with_reducible repeat (first | apply Kd.R_alloc | apply Kd.R_drewN | apply Kd.R_drew)); exact HO_4.out))) (below_size (by repeat (first | (with_reducible first | exact HB.out | apply below_alloc | apply pw_below_drewN | apply below_drew1) | exact HB.out)))); have n2_ := Aside0.mk (below_step (by repeat (first | (with_reducible first | exact HB.out | apply below_alloc | apply pw_below_drewN | apply below_drew1) | exact HB.out)) hb); clear HO_4; clear HB; have HO_4 := n0_; have HO184 := n1_; have HB := n2_; clear n0_ n1_ n2_; clear hb ho12; obtain ⟨Ao14, co14, eo14⟩ := Kd.R_slice HO_4.out; subst eo14) | ((with_reducible refine gate_builtin (b := .append) (xs := #[.tmp 28, .tmp 29]) rfl ?_); at_builtin; refine Kd.R_append_rows (Kd.int .u8) (w0 := w) w.heap.size rfl (.tmp 28) (.tmp 29) 67 5 (.int .u8 0) 1 rfl Tryd.underlying67 info5 rfl (by decide) (by omega) v183 y182 x4_1 _ _ _ (fun k_ => some k_ ≠ (.slice Ao14 x4_1.length co14 : Value).ownBlock) (fun _ => False) rfl rfl ?aO ?aR (fun _ _ h => h) (fun _ h => h.elim) ?aF ?aB ?aS ?aL ?_; (case aR => repeat (first | exact (Kd.R_reads' HO_4.out).2.2 | (with_reducible refine Kd.C_alloc ?_ _) | (with_reducible refine Kd.C_drewN ?_ _) | (with_reducible refine Kd.C_drew ?_))); (case aB => exact (by repeat (first | (with_reducible first | exact HB.out | apply below_alloc | apply pw_below_drewN | apply below_drew1) | exact HB.out))); (case aF => exact (fun k_ hk => Kd.fresh' (Kd.R_lt (by (with_reducible repeat (first | apply Kd.R_alloc | apply Kd.R_drewN | apply Kd.R_drew)); exact HO_4.out)) k_ hk)); (case aO => exact (by (with_reducible repeat (first | apply Kd.R_alloc | apply Kd.R_drewN | apply Kd.R_drew)); exact Kd.R_mono HO184.out (fun _ hk => hk.2))); (case aS => exact (below_size (by repeat (first | (with_reducible first | exact HB.out | apply below_alloc | apply pw_below_drewN | apply below_drew1) | exact HB.out)))); (case aL => have := LMc10.out; omega); intro v186 w13 ho hb hg hat; rw [← Ny185.out] at ho; have n0_ := Aside0.mk (Kd.R_after (ok := (fun _ => True)) (by (with_reducible repeat (first | apply Kd.R_alloc | apply Kd.R_drewN | apply Kd.R_drew)); exact HO_4.out) hg hat); have n1_ := Aside0.mk (hb); have n2_ := Aside0.mk (ho); clear HO_4; clear HB; clear HO184; have HO_4 := n0_; have HB := n1_; have HO187 := n2_; clear n0_ n1_ n2_; clear ho hb hg hat))
            go_roundg k1
            case measure => have := HK1.out; omega
            case rel => exact ⟨(wrap32 (Int.tdiv x0_1 64)), (y185), (wrap64 (x5_1 + 1)), (by first | rfl | (simp; done) | (simp [*]; done)), (by first | rfl | (simp; done) | (simp [*]; done)), H', ⟨by have := HK1.out; omega⟩, ⟨by (with_reducible repeat (first | apply Kd.R_alloc | apply Kd.R_drewN | apply Kd.R_drew)); exact Kd.R_mono HO187.out (fun _ hk => trivial)⟩, ⟨by repeat (first | (with_reducible first | exact HB.out | apply below_alloc | apply pw_below_drewN | apply below_drew1) | exact HB.out)⟩⟩
          · rw [if_neg c10] at H
            exact absurd H (by simp)
        · rw [if_neg c9] at H
          have c9b0 : decide (x5_1 < t175) = false := decide_eq_false c9
          clear c9
          obtain ⟨y188, hy188⟩ : ∃ y_ : List Int, y_ = (([0, 0, 192, 224, 240] : List Int)) := ⟨_, rfl⟩
          replace H : (if 0 ≤ t175 then (if t175 < (y188.length : Int) then ((some (([(wrap64 ((rd y188 t175) + (wrap64 (x0_1)))) % 256] : List Int) : List Int)).bind fun y192 => (if y192.length + x4_1.length < 140737488355328 then (some (strOfNums (y192 ++ x4_1))) else (none))) else (none)) else (none)) = some r := by first | (rw [hy188]; with_reducible exact H) | (have H2_ := (Option.bind_some _ _).symm.trans H; rw [hy188]; with_reducible exact H2_) | (have H2_ := (Option.bind_some _ _).symm.trans H; with_reducible exact H2_) | with_reducible exact H | (rw [hy188]; exact H) | exact H
          have Ny188 := Aside0.mk hy188
          clear hy188
          by_cases c15 : 0 ≤ t175
          · rw [if_pos c15] at H
            have c15b0 : decide (0 ≤ t175) = true := decide_eq_true c15
            clear c15
            by_cases c16 : t175 < (y188.length : Int)
            · rw [if_pos c16] at H
              have c16b0 : decide (t175 < (y188.length : Int)) = true := decide_eq_true c16
              clear c16
              obtain ⟨y192, hy192⟩ : ∃ y_ : List Int, y_ = (([(wrap64 ((rd y188 t175) + (wrap64 (x0_1)))) % 256] : List Int)) := ⟨_, rfl⟩
              replace H : (if y192.length + x4_1.length < 140737488355328 then (some (strOfNums (y192 ++ x4_1))) else (none)) = some r := by first | (rw [hy192]; with_reducible exact H) | (have H2_ := (Option.bind_some _ _).symm.trans H; rw [hy192]; with_reducible exact H2_) | (have H2_ := (Option.bind_some _ _).symm.trans H; with_reducible exact H2_) | with_reducible exact H | (rw [hy192]; exact H) | exact H
              have Ny192 := Aside0.mk hy192
              clear hy192
              by_cases c17 : y192.length + x4_1.length < 140737488355328
              · rw [if_pos c17] at H
                have LMc17 := Aside0.mk c17
                clear c17
                obtain ⟨y195, hy195⟩ : ∃ y_ : List Int, y_ = (y192 ++ x4_1) := ⟨_, rfl⟩
                replace H : (some (strOfNums y195)) = some r := by first | (rw [hy195]; with_reducible exact H) | (have H2_ := (Option.bind_some _ _).symm.trans H; rw [hy195]; with_reducible exact H2_) | (have H2_ := (Option.bind_some _ _).symm.trans H; with_reducible exact H2_) | with_reducible exact H | (rw [hy195]; exact H) | exact H
                have Ny195 := Aside0.mk hy195
                clear hy195
                obtain rfl := Option.some.inj H
                go_wp2_with (first | ((with_reducible refine gate_dst (N := 34) rfl ?_); refine Kd.R_lit (Kd.int .i64) _ 3 ?hg (N := 34) ?hd (xs := ([0, 0, 192, 224, 240] : List Int)) (inner := [.int .i64 0, .int .i64 0, .int .i64 192, .int .i64 224, .int .i64 240]) (ok := fun _ => True) (okp := fun _ => True) ?hr ?hp (fun _ hk => hk) trivial (Below.refl _ _) (Nat.le_refl _) (by simp) ?_; (case hd => rfl); (case hg => rfl); (case hr => first | (go_simp; done) | (go_simp; rfl)); (case hp => exact (Reps.one (show Kd.M (Kd.int .i64) _ _ _ 0 [.int .i64 0] from rfl) (Reps.one (show Kd.M (Kd.int .i64) _ _ _ 0 [.int .i64 0] from rfl) (Reps.one (show Kd.M (Kd.int .i64) _ _ _ 192 [.int .i64 192] from rfl) (Reps.one (show Kd.M (Kd.int .i64) _ _ _ 224 [.int .i64 224] from rfl) (Reps.one (show Kd.M (Kd.int .i64) _ _ _ 240 [.int .i64 240] from rfl) (Reps.none _ _))))))); intro v189 w18 ho19 hb hg_ hnew_; clear hg_ hnew_; (first | rw [← Ny188.out] at ho19 | (simp only [Int.reduceToNat] at ho19; rw [← Ny188.out] at ho19)); have n0_ := Aside0.mk (Kd.R_below (by (with_reducible repeat (first | apply Kd.R_alloc | apply Kd.R_drewN | apply Kd.R_drew)); exact HO_4.out) hb); have n1_ := Aside0.mk (Kd.R_lower ho19 (below_size (by repeat (first | (with_reducible first | exact HB.out | apply below_alloc | apply pw_below_drewN | apply below_drew1) | exact HB.out)))); have n2_ := Aside0.mk (below_step (by repeat (first | (with_reducible first | exact HB.out | apply below_alloc | apply pw_below_drewN | apply below_drew1) | exact HB.out)) hb); clear HO_4; clear HB; have HO_4 := n0_; have HO190 := n1_; have HB := n2_; clear n0_ n1_ n2_; clear hb ho19; obtain ⟨Ao20, co20, eo20⟩ := Kd.R_slice HO190.out; subst eo20; have p191 : 0 ≤ (t175 : Int) := of_decide_eq_true (by first | (with_reducible assumption) | assumption); have q191 : t175 < (y188.length : Int) := of_decide_eq_true (by first | (with_reducible assumption) | assumption); obtain ⟨ad191, e191, hx191_0⟩ := Kd.at_int (Kd.R_reads' HO190.out).2.2 t175 p191 q191; cases e191; replace p191 := eq_true p191; replace q191 := eq_true q191) | ((with_reducible refine gate_dst (N := 43) rfl ?_); refine Kd.R_lit (Kd.int .u8) _ 5 ?hg (N := 43) ?hd (xs := ([(wrap64 ((rd y188 t175) + (wrap64 (x0_1)))) % 256] : List Int)) (inner := [.int .u8 ((wrap64 ((rd y188 t175) + (wrap64 (x0_1)))) % 256)]) (ok := fun _ => True) (okp := fun _ => True) ?hr ?hp (fun _ hk => hk) trivial (Below.refl _ _) (Nat.le_refl _) (by simp) ?_; (case hd => rfl); (case hg => rfl); (case hr => first | (go_simp; done) | (go_simp; rfl)); (case hp => exact (Reps.one (show Kd.M (Kd.int .u8) _ _ _ ((wrap64 ((rd y188 t175) + (wrap64 (x0_1)))) % 256) [.int .u8 ((wrap64 ((rd y188 t175) + (wrap64 (x0_1)))) % 256)] from rfl) (Reps.none _ _))); intro v193 w21 ho22 hb hg_ hnew_; clear hg_ hnew_; (first | rw [← Ny192.out] at ho22 | (simp only [Int.reduceToNat] at ho22; rw [← Ny192.out] at ho22)); have n0_ := Aside0.mk (Kd.R_elder' (by (with_reducible repeat (first | apply Kd.R_alloc | apply Kd.R_drewN | apply Kd.R_drew)); exact HO_4.out) (Kd.R_base ho22) hb); have n1_ := Aside0.mk (Kd.R_below (by (with_reducible repeat (first | apply Kd.R_alloc | apply Kd.R_drewN | apply Kd.R_drew)); exact HO190.out) hb); have n2_ := Aside0.mk (Kd.R_lower (Kd.R_new' ho22 (Kd.R_lt (by (with_reducible repeat (first | apply Kd.R_alloc | apply Kd.R_drewN | apply Kd.R_drew)); exact HO_4.out))) (below_size (by repeat (first | (with_reducible first | exact HB.out | apply below_alloc | apply pw_below_drewN | apply below_drew1) | exact HB.out)))); have n3_ := Aside0.mk (below_step (by repeat (first | (with_reducible first | exact HB.out | apply below_alloc | apply pw_below_drewN | apply below_drew1) | exact HB.out)) hb); clear HO_4; clear HO190; clear HB; have HO_4 := n0_; have HO190 := n1_; have HO194 := n2_; have HB := n3_; clear n0_ n1_ n2_ n3_; clear hb ho22; obtain ⟨Ao24, co24, eo24⟩ := Kd.R_slice HO_4.out; subst eo24) | ((with_reducible refine gate_builtin (b := .append) (xs := #[.tmp 44, .tmp 45]) rfl ?_); at_builtin; refine Kd.R_append_rows (Kd.int .u8) (w0 := w) w.heap.size rfl (.tmp 44) (.tmp 45) 67 5 (.int .u8 0) 1 rfl Tryd.underlying67 info5 rfl (by decide) (by omega) v193 y192 x4_1 _ _ _ (fun k_ => some k_ ≠ (.slice Ao24 x4_1.length co24 : Value).ownBlock) (fun _ => False) rfl rfl ?aO ?aR (fun _ _ h => h) (fun _ h => h.elim) ?aF ?aB ?aS ?aL ?_; (case aR => repeat (first | exact (Kd.R_reads' HO_4.out).2.2 | (with_reducible refine Kd.C_alloc ?_ _) | (with_reducible refine Kd.C_drewN ?_ _) | (with_reducible refine Kd.C_drew ?_))); (case aB => exact (by repeat (first | (with_reducible first | exact HB.out | apply below_alloc | apply pw_below_drewN | apply below_drew1) | exact HB.out))); (case aF => exact (fun k_ hk => Kd.fresh' (Kd.R_lt (by (with_reducible repeat (first | apply Kd.R_alloc | apply Kd.R_drewN | apply Kd.R_drew)); exact HO_4.out)) k_ hk)); (case aO => exact (by (with_reducible repeat (first | apply Kd.R_alloc | apply Kd.R_drewN | apply Kd.R_drew)); exact Kd.R_mono HO194.out (fun _ hk => hk.2))); (case aS => exact (below_size (by repeat (first | (with_reducible first | exact HB.out | apply below_alloc | apply pw_below_drewN | apply below_drew1) | exact HB.out)))); (case aL => have := LMc17.out; omega); intro v196 w23 ho hb hg hat; rw [← Ny195.out] at ho; have n0_ := Aside0.mk (Kd.R_after (ok := (fun _ => True)) (by (with_reducible repeat (first | apply Kd.R_alloc | apply Kd.R_drewN | apply Kd.R_drew)); exact HO_4.out) hg hat); have n1_ := Aside0.mk (Kd.R_over' (by (with_reducible repeat (first | apply Kd.R_alloc | apply Kd.R_drewN | apply Kd.R_drew)); exact HO190.out) (Kd.R_typed (by (with_reducible repeat (first | apply Kd.R_alloc | apply Kd.R_drewN | apply Kd.R_drew)); exact HO194.out)) (by decide) hg); have n2_ := Aside0.mk (hb); have n3_ := Aside0.mk (ho); clear HO_4; clear HO190; clear HB; clear HO194; have HO_4 := n0_; have HO190 := n1_; have HB := n2_; have HO197 := n3_; clear n0_ n1_ n2_ n3_; clear ho hb hg hat; have hcv25 := own_string (P := Tryd.prog) Tryd.underlying67 Tryd.underlying5 Tryd.underlying9 (Kd.own_of_R HO197.out)))
                go_ret
                exact ⟨by first | rfl | (simp [errW_none, errW_some] <;> rfl) | (simp [*, errW_none, errW_some] <;> rfl), by repeat (first | (with_reducible first | exact HB.out | apply below_alloc | apply pw_below_drewN | apply below_drew1) | exact HB.out)⟩
              · rw [if_neg c17] at H
                exact absurd H (by simp)
            · rw [if_neg c16] at H
              exact absurd H (by simp)
          · rw [if_neg c15] at H
            exact absurd H (by simp)
def backseatlaw01_UtfWrites.j0 : Nat → Int → ByteArray → Int → Bool → Option (Bool)
  | 0, _, _, _, _ => none
  | k + 1, x0, x3, x4, x18 => if x18 = true then (some false) else ((backseatref01_Is.f x0).bind fun t203 => (if t203 = true then (if x4 = 0 then ((backseatref01_Text.f k x0).bind fun t204 => (some (x3.toList == t204.toList))) else (some false)) else (if x4 = 1 then (some (x3.toList == ([] : List UInt8))) else (some false))))
def backseatlaw01_UtfWrites.f (k : Nat) (a0 : Int) : Option (Bool) := (utf_Text.f a0).bind fun bt198 => ((utf_Width.f a0).bind fun t200 => ((backseatref01_Width.f k a0).bind fun t201 => (if t200 = t201 then ((backseatlaw01_alive.f k).bind fun t202 => (backseatlaw01_UtfWrites.j0 k a0 bt198.1 bt198.2 (!t202))) else (backseatlaw01_UtfWrites.j0 k a0 bt198.1 bt198.2 true))))
theorem backseatlaw01_UtfWrites.mono_l : ∀ k, (∀ y0 y1 y2 y3, LeO (backseatlaw01_UtfWrites.j0 k y0 y1 y2 y3) (backseatlaw01_UtfWrites.j0 (k + 1) y0 y1 y2 y3))
  | 0 => fun _ _ _ _ r h => by simp [backseatlaw01_UtfWrites.j0] at h
  | k + 1 => by
    have ih0 := backseatlaw01_UtfWrites.mono_l k
    · intro y0 y1 y2 y3
      unfold backseatlaw01_UtfWrites.j0
      repeat' first
      | (with_reducible exact ih0 _ _ _ _)
      | (with_reducible exact backseatlaw01_alive.mono _)
      | (with_reducible exact backseatref01_Text.mono _ _)
      | (with_reducible exact backseatref01_Width.mono _ _)
      | (with_reducible exact LeO.refl _)
      | (with_reducible exact LeO.none _)
      | (with_reducible refine LeO.ite ?_ ?_)
      | (with_reducible refine LeO.bind ?_ (fun _ => ?_))
      | exact ih0 _ _ _ _
      | exact backseatlaw01_alive.mono _
      | exact backseatref01_Text.mono _ _
      | exact backseatref01_Width.mono _ _
      | exact LeO.none _
      | refine LeO.ite ?_ ?_
      | refine LeO.bind ?_ (fun _ => ?_)
theorem backseatlaw01_UtfWrites.mono : ∀ a0 k, LeO (backseatlaw01_UtfWrites.f k a0) (backseatlaw01_UtfWrites.f (k + 1) a0) := by
  intro a0 k
  have ih0 := backseatlaw01_UtfWrites.mono_l k
  unfold backseatlaw01_UtfWrites.f
  repeat' first
      | (with_reducible exact ih0 _ _ _ _)
      | (with_reducible exact backseatlaw01_alive.mono _)
      | (with_reducible exact backseatref01_Text.mono _ _)
      | (with_reducible exact backseatref01_Width.mono _ _)
      | (with_reducible exact LeO.refl _)
      | (with_reducible exact LeO.none _)
      | (with_reducible refine LeO.ite ?_ ?_)
      | (with_reducible refine LeO.bind ?_ (fun _ => ?_))
      | exact ih0 _ _ _ _
      | exact backseatlaw01_alive.mono _
      | exact backseatref01_Text.mono _ _
      | exact backseatref01_Width.mono _ _
      | exact LeO.none _
      | refine LeO.ite ?_ ?_
      | refine LeO.bind ?_ (fun _ => ?_)
def backseatlaw04_cut.f (a0_0 : ByteArray) (a0_1 : Int) (a0_2 : Int) (a0_3 : Int) (a0_4 : Int) : Option (ByteArray × Int × Int × Int × Int) := if 0 ≤ (mn (a0_0.size : Int) 20) then (if (mn (a0_0.size : Int) 20) ≤ (a0_0.size : Int) then (some (a0_0.extract 0 ((mn (a0_0.size : Int) 20) : Int).toNat, a0_1, a0_2, a0_3, a0_4)) else (none)) else (none)
def cell_in.f (a0 : Int) (a1 : Int) (a2 : Int) : Option (Bool) := if a0 ≥ a1 then (some (decide (a0 ≤ a2))) else (some false)
def cell_Look.f (a0_0 : Int) (a0_1 : Int) (a0_2 : Int) : Option (Bool) := (cell_in.f a0_0 0 256).bind fun t208 => (if t208 = true then ((cell_in.f a0_1 0 256).bind fun t209 => (if t209 = true then ((cell_in.f a0_2 0 255).bind fun t210 => (some t210)) else (some false))) else (some false))
def cell_Of.f (a0 : Int) (a1_0 : Int) (a1_1 : Int) (a1_2 : Int) : Option (ByteArray × Int × Int × Int × Int × Int) := (utf_Text.f a0).bind fun bt213 => (if bt213.2 = 0 then ((utf_Width.f a0).bind fun t215 => (if t215 < 1 then (some ((⟨#[]⟩ : ByteArray), 0, 0, 0, 0, 1)) else ((cell_Look.f a1_0 a1_1 a1_2).bind fun t216 => (if t216 = true then ((utf_Width.f a0).bind fun t217 => (some (bt213.1, t217, a1_0, a1_1, a1_2, 0))) else (some ((⟨#[]⟩ : ByteArray), 0, 0, 0, 0, 1)))))) else (some ((⟨#[]⟩ : ByteArray), 0, 0, 0, 0, 1)))
end Go.Proofs.YthipdgnbpdngpaaDoor.P
end
section
namespace Go.Proofs.YthipdgnbpdngpaaDoor
open Go.RowKit Go.Lib Go.Proofs.YthipdgnbpdngpaaDoorW.PrintWords Go.Proofs.YthipdgnbpdngpaaDoorW.PrintLast Go.Proofs.YthipdgnbpdngpaaDoorW.PrintMore Go.Proofs.YthipdgnbpdngpaaDoor.P
theorem tl (k : Nat) (x0 x3 : Int) (x4 : List Int) (x5 : Int) : backseatref01_Text.l0 (k + 1) x0 x3 x4 x5 = if x5 < x3 then ((some (([(wrap32 (128 + (Int.tmod x0 64))) % 256] : List Int) : List Int)).bind fun y182 => (if y182.length + x4.length < 140737488355328 then (backseatref01_Text.l0 k (wrap32 (Int.tdiv x0 64)) x3 (y182 ++ x4) (wrap64 (x5 + 1))) else (none))) else ((some (([0, 0, 192, 224, 240] : List Int) : List Int)).bind fun y188 => (if 0 ≤ x3 then (if x3 < (y188.length : Int) then ((some (([(wrap64 ((rd y188 x3) + (wrap64 (x0)))) % 256] : List Int) : List Int)).bind fun y192 => (if y192.length + x4.length < 140737488355328 then (some (strOfNums (y192 ++ x4))) else (none))) else (none)) else (none))) := by simp only [backseatref01_Text.l0]
theorem t_step (k : Nat) (r n i : Int) (l : List Int) (hr : 0 ≤ r) (hr1 : r ≤ 1114111) (hi : i < n) (hi0 : 0 ≤ i) (hn : n ≤ 4) (hl : l.length ≤ 5) : backseatref01_Text.l0 (k + 1) r n l i = backseatref01_Text.l0 k (r / 64) n ([128 + r % 64] ++ l) (i + 1) := by
  rw [tl, if_pos hi, Option.bind_some, if_pos (by simp; omega), Int.tmod_eq_emod_of_nonneg hr, Int.tdiv_eq_ediv_of_nonneg hr, w32 (by omega) (by omega), w32 (by omega) (by omega), w64 (by omega) (by omega), show (128 + r % 64) % 256 = 128 + r % 64 by omega]
theorem t_end (k : Nat) (r n : Int) (l : List Int) (hr : 0 ≤ r) (hr1 : r ≤ 60) (hn0 : 2 ≤ n) (hn : n ≤ 4) (hh : rd [0, 0, 192, 224, 240] n + r < 256) (hl : l.length ≤ 5) : backseatref01_Text.l0 (k + 1) r n l n = some (strOfNums ([rd [0, 0, 192, 224, 240] n + r] ++ l)) := by
  have h2 : n = 2 ∨ n = 3 ∨ n = 4 := by omega
  have hb : 192 ≤ rd [0, 0, 192, 224, 240] n := by rcases h2 with rfl | rfl | rfl <;> decide
  rw [tl, if_neg (by omega), Option.bind_some, if_pos (by omega), if_pos (by simp; omega), Option.bind_some, if_pos (by simp; omega), w64 (i := r) (by omega) (by omega), w64 (by omega) (by omega), Int.emod_eq_of_lt (by omega) hh]
theorem nums_enc (l : List Int) (m : List UInt8) (h : (l.map fun n => UInt8.ofNat n.toNat) = m) : (strOfNums l).data.toList = m := by rw [strOfNums_data]; exact h
theorem text_ref (r : Int) (hv : Lib.validRune r = true) (k : Nat) (hk : 10 ≤ k) : backseatref01_Text.f k r = some (Utf8.encode r) := by
  obtain ⟨k, rfl⟩ : ∃ m, k = m + 10 := ⟨k - 10, by omega⟩
  have hz := (valid_iff r).mp hv
  unfold backseatref01_Text.f backseatref01_Size.f
  by_cases h1 : r < 128
  · rw [if_pos h1, Option.bind_some, if_pos rfl]
    congr 1
    refine ba_ext _ _ (nums_enc _ _ ?_)
    show _ = enc r
    rw [enc1 r (by omega) h1, Int.emod_eq_of_lt (by omega) (by omega)]; rfl
  by_cases h2 : r < 2048
  · rw [if_neg h1, if_pos h2, Option.bind_some, if_neg (by omega), t_step _ _ _ _ _ (by omega) (by omega) (by omega) (by omega) (by omega) (by simp), show (1 : Int) + 1 = 2 from rfl, t_end _ _ _ _ (by omega) (by omega) (by omega) (by omega) (by rw [show rd [0, 0, 192, 224, 240] 2 = 192 by decide]; omega) (by simp)]
    congr 1
    refine ba_ext _ _ (nums_enc _ _ ?_)
    show _ = enc r
    rw [enc2 r (by omega) h2, show rd [0, 0, 192, 224, 240] 2 = 192 by decide]
    simp only [List.append_nil, List.singleton_append, List.map_cons, List.map_nil]
    rw [show (192 + r / 64).toNat = 192 + r.toNat / 64 by omega, show (128 + r % 64).toNat = 128 + r.toNat % 64 by omega]
  by_cases h3 : r < 65536
  · rw [if_neg h1, if_neg h2, if_pos h3, Option.bind_some, if_neg (by omega), t_step _ _ _ _ _ (by omega) (by omega) (by omega) (by omega) (by omega) (by simp), show (1 : Int) + 1 = 2 from rfl, t_step _ _ _ _ _ (by omega) (by omega) (by omega) (by omega) (by omega) (by simp), show (2 : Int) + 1 = 3 from rfl, t_end _ _ _ _ (by omega) (by omega) (by omega) (by omega) (by rw [show rd [0, 0, 192, 224, 240] 3 = 224 by decide]; omega) (by simp)]
    congr 1
    refine ba_ext _ _ (nums_enc _ _ ?_)
    show _ = enc r
    rw [enc3 r hv (by omega) h3, show rd [0, 0, 192, 224, 240] 3 = 224 by decide]
    simp only [List.append_nil, List.singleton_append, List.map_cons, List.map_nil]
    rw [show (224 + r / 64 / 64).toNat = 224 + r.toNat / 4096 by omega, show (128 + r / 64 % 64).toNat = 128 + r.toNat / 64 % 64 by omega, show (128 + r % 64).toNat = 128 + r.toNat % 64 by omega]
  · rw [if_neg h1, if_neg h2, if_neg h3, Option.bind_some, if_neg (by omega), t_step _ _ _ _ _ (by omega) (by omega) (by omega) (by omega) (by omega) (by simp), show (1 : Int) + 1 = 2 from rfl, t_step _ _ _ _ _ (by omega) (by omega) (by omega) (by omega) (by omega) (by simp), show (2 : Int) + 1 = 3 from rfl, t_step _ _ _ _ _ (by omega) (by omega) (by omega) (by omega) (by omega) (by simp), show (3 : Int) + 1 = 4 from rfl, t_end _ _ _ _ (by omega) (by omega) (by omega) (by omega) (by rw [show rd [0, 0, 192, 224, 240] 4 = 240 by decide]; omega) (by simp)]
    congr 1
    refine ba_ext _ _ (nums_enc _ _ ?_)
    show _ = enc r
    rw [enc4 r hv (by omega), show rd [0, 0, 192, 224, 240] 4 = 240 by decide]
    simp only [List.append_nil, List.singleton_append, List.map_cons, List.map_nil]
    rw [show (240 + r / 64 / 64 / 64).toNat = 240 + r.toNat / 262144 by omega, show (128 + r / 64 / 64 % 64).toNat = 128 + r.toNat / 4096 % 64 by omega, show (128 + r / 64 % 64).toNat = 128 + r.toNat / 64 % 64 by omega, show (128 + r % 64).toNat = 128 + r.toNat % 64 by omega]
end Go.Proofs.YthipdgnbpdngpaaDoor
end
