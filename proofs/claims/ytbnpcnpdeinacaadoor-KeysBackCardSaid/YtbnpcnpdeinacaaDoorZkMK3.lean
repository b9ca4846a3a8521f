-- Copies of the texts YtbnpcnpdeinacaaDoorMK2, YtbnpcnpdeinacaaDoorMK3 with what this claim does not reach left out (prune.py, a program of this project).
import Derived.Test.YtbnpcnpdeinacaaDoorZkMK0
import Derived.Test.YtbnpcnpdeinacaaDoorZkMK1
section
namespace Go.Proofs.YtbnpcnpdeinacaaDoor
open Go.RowKit Go.Lib Go.Proofs.YtbnpcnpdeinacaaDoorW.PrintWords Go.Proofs.YtbnpcnpdeinacaaDoorW.PrintLast Go.Proofs.YtbnpcnpdeinacaaDoorW.PrintMore Go.Proofs.YtbnpcnpdeinacaaDoor.P
set_option linter.unusedVariables false
theorem toList_take (s : ByteArray) (n : Nat) : (s.extract 0 n).data.toList = s.data.toList.take n := by rw [toList_extract, List.drop_zero, Nat.sub_zero]
theorem toList_drop (s : ByteArray) (n : Nat) : (s.extract n s.size).data.toList = s.data.toList.drop n := by
  rw [toList_extract, List.take_of_length_le]
  rw [List.length_drop, size_len]; omega
theorem take_pre (b s : List UInt8) (h : b.length ≤ s.length) : (s.take b.length == b) = b.isPrefixOf s := by
  rw [Bool.eq_iff_iff, beq_iff_eq, List.isPrefixOf_iff_prefix, List.prefix_iff_eq_take]
  exact eq_comm
theorem hasPrefix_go (a b : ByteArray) : strings_HasPrefix.f a b = some (Lib.hasPrefix a.data.toList b.data.toList) := by
  unfold strings_HasPrefix.f stringslite_HasPrefix.f
  by_cases h : (a.size : Int) ≥ (b.size : Int)
  · rw [if_pos h, if_pos (by omega), if_pos h, Option.bind_some]
    congr 1
    rw [Lib.toList_data, Lib.toList_data, Int.toNat_natCast, toList_take, size_len]
    exact take_pre _ _ (by rw [← size_len, ← size_len]; omega)
  · rw [if_neg h, Option.bind_some]
    congr 1
    symm
    rw [Bool.eq_false_iff]
    intro hp
    have := (List.isPrefixOf_iff_prefix.1 hp).length_le
    rw [← size_len, ← size_len] at this
    omega
theorem esc_j1 (k : Nat) (x1 : Bool) (x7 x8 : ByteArray) (b : Bool) : keys_escaped.j1 (k + 1) x1 x7 x8 b = if b = true then (if 2 + x8.size ≤ 9223372036854775807 then (some ((⟨#[77, 45]⟩ : ByteArray) ++ x8, wrap64 (1 + (x8.size : Int)))) else (none)) else ((keys_short.f k x7).bind fun t116 => (if t116 = true then (if x1 = true then (some ((⟨#[69, 115, 99]⟩ : ByteArray), 1)) else (some ((⟨#[]⟩ : ByteArray), 0))) else (some ((⟨#[69, 115, 99]⟩ : ByteArray), 1)))) := by simp only [keys_escaped.j1]
theorem esc_j0 (k : Nat) (s : ByteArray) (x1 : Bool) : keys_escaped.j0 (k + 1) s x1 = if 1 ≤ (s.size : Int) then ((keys_letter.f k (s.extract 1 s.size)).bind fun t115 => (if t115.toList = ([] : List UInt8) then (keys_escaped.j1 k x1 (s.extract 1 s.size) t115 false) else (if t115.toList = ([91] : List UInt8) then (keys_escaped.j1 k x1 (s.extract 1 s.size) t115 false) else (keys_escaped.j1 k x1 (s.extract 1 s.size) t115 (t115.toList != ([79] : List UInt8)))))) else (none) := by simp only [keys_escaped.j0]
theorem letterL_len (l : List UInt8) : (letterL l).length ≤ l.length := by
  unfold letterL
  split
  · split
    · simp
    · rw [List.length_take]; omega
  · simp
def behindL (s : List UInt8) (final : Bool) : List UInt8 × Nat :=
  if letterL (s.drop 1) ≠ [] ∧ letterL (s.drop 1) ≠ [91] ∧ letterL (s.drop 1) ≠ [79] then ([77, 45] ++ letterL (s.drop 1), 1 + (letterL (s.drop 1)).length)
  else if shortL (s.drop 1) = true ∧ final = false then ([], 0)
  else ([69, 115, 99], 1)
def pairF (p : List UInt8 × Nat) : ByteArray × Int := (ba p.1, (p.2 : Int))
theorem behind_go (s : ByteArray) (final : Bool) (k : Nat) (hk : 10 ≤ k) (h1 : 1 ≤ s.size) (h2 : s.size ≤ 1000000) : keys_escaped.j0 k s final = some (pairF (behindL s.data.toList final)) := by
  obtain ⟨k, rfl⟩ : ∃ m, k = m + 1 + 1 := ⟨k - 2, by omega⟩
  rw [esc_j0, if_pos (by omega), letter_go _ _ (by omega), Option.bind_some, Lib.toList_data, ba_data, toList_drop, esc_j1, esc_j1, short_go _ _ (by omega), toList_drop]
  have hle := letterL_len (s.data.toList.drop 1)
  rw [List.length_drop, ← size_len] at hle
  have hend : ((some (shortL (List.drop 1 s.data.toList))).bind fun t116 => (if t116 = true then (if final = true then (some ((⟨#[69, 115, 99]⟩ : ByteArray), (1 : Int))) else (some ((⟨#[]⟩ : ByteArray), 0))) else (some ((⟨#[69, 115, 99]⟩ : ByteArray), 1)))) =
      some (pairF (if shortL (s.data.toList.drop 1) = true ∧ final = false then (([], 0) : List UInt8 × Nat) else ([69, 115, 99], 1))) := by
    rw [Option.bind_some]
    cases shortL (s.data.toList.drop 1) <;> cases final <;> rfl
  by_cases c1 : letterL (s.data.toList.drop 1) = []
  · have hb : behindL s.data.toList final = _ := if_neg (show ¬ (letterL (s.data.toList.drop 1) ≠ [] ∧ letterL (s.data.toList.drop 1) ≠ [91] ∧ letterL (s.data.toList.drop 1) ≠ [79]) from fun h => h.1 c1)
    rw [if_pos c1, hb]
    exact hend
  · rw [if_neg c1]
    by_cases c2 : letterL (s.data.toList.drop 1) = [91]
    · have hb : behindL s.data.toList final = _ := if_neg (show ¬ (letterL (s.data.toList.drop 1) ≠ [] ∧ letterL (s.data.toList.drop 1) ≠ [91] ∧ letterL (s.data.toList.drop 1) ≠ [79]) from fun h => h.2.1 c2)
      rw [if_pos c2, hb]
      exact hend
    · rw [if_neg c2]
      by_cases c3 : letterL (s.data.toList.drop 1) = [79]
      · have hb : behindL s.data.toList final = _ := if_neg (show ¬ (letterL (s.data.toList.drop 1) ≠ [] ∧ letterL (s.data.toList.drop 1) ≠ [91] ∧ letterL (s.data.toList.drop 1) ≠ [79]) from fun h => h.2.2 c3)
        have hn : (letterL (s.data.toList.drop 1) != [79]) = false := by rw [c3]; rfl
        rw [hn, hb]
        exact hend
      · have hb : behindL s.data.toList final = _ := if_pos ⟨c1, c2, c3⟩
        have hn : (letterL (s.data.toList.drop 1) != [79]) = true := by rw [bne_iff_ne]; exact c3
        rw [hn, if_pos rfl, ba_size, if_pos (by omega), hb]
        congr 1
        refine Prod.ext ?_ ?_
        · exact ba_ext _ _ (by rw [ByteArray.data_append, Array.toList_append]; rfl)
        · show wrap64 (1 + ((letterL (s.data.toList.drop 1)).length : Int)) = ((1 + (letterL (s.data.toList.drop 1)).length : Nat) : Int)
          unfold wrap64
          omega
theorem escaped_go (s : ByteArray) (final : Bool) (k : Nat) (hk : 30 ≤ k) (h1 : 1 ≤ s.size) (h2 : s.size ≤ 1000000) : keys_escaped.f k s final = some (pairF (escapedL s.data.toList final)) := by
  unfold keys_escaped.f
  rw [hasPrefix_go, Option.bind_some, behind_go s final k (by omega) h1 h2, control_go s k (by omega)]
  show (if Lib.hasPrefix s.data.toList [27, 91] = true then _ else _) = _
  have hE : escapedL s.data.toList final = if Lib.hasPrefix s.data.toList [27, 91] = true ∧ 0 < controlL s.data.toList then ([63], (controlL s.data.toList).toNat) else if Lib.hasPrefix s.data.toList [27, 91] = true ∧ controlL s.data.toList < 0 ∧ final = false then ([], 0) else behindL s.data.toList final := rfl
  by_cases hp : Lib.hasPrefix s.data.toList [27, 91] = true
  · rw [if_pos hp, Option.bind_some]
    by_cases c1 : controlL s.data.toList > 0
    · have e : escapedL s.data.toList final = _ := hE.trans (if_pos ⟨hp, c1⟩)
      rw [if_pos c1, e]
      congr 1
      refine Prod.ext rfl ?_
      show controlL s.data.toList = ((controlL s.data.toList).toNat : Int)
      omega
    · replace hE := hE.trans (if_neg (fun h => c1 h.2))
      rw [if_neg c1]
      by_cases c2 : controlL s.data.toList < 0
      · rw [if_pos c2]
        cases final with
        | true =>
          have e : escapedL s.data.toList true = _ := hE.trans (if_neg (fun h => by cases h.2.2))
          rw [if_pos rfl, e]
        | false =>
          have e : escapedL s.data.toList false = _ := hE.trans (if_pos ⟨hp, c2, rfl⟩)
          rw [if_neg (by decide), e]; rfl
      · have e : escapedL s.data.toList final = _ := hE.trans (if_neg (fun h => c2 h.2.1))
        rw [if_neg c2, e]
  · have e : escapedL s.data.toList final = _ := (hE.trans (if_neg (fun h => hp h.1))).trans (if_neg (fun h => hp h.1))
    rw [if_neg hp, e]
/-- A key taken off bytes that are there: its name and how many bytes; no name: they may go on. -/
def takeL (s : List UInt8) (final : Bool) : List UInt8 × Nat :=
  match hitL s with
  | some p => (p.1, p.2.length)
  | none =>
    if beginsL s = true ∧ final = false then ([], 0)
    else if s.take 1 = [27] then escapedL s final
    else if letterL s ≠ [] then (letterL s, (letterL s).length)
    else if (firstL s).2.2 = 2 then (if final = true then ([63], 1) else ([], 0))
    else ([63], (firstL s).2.1.toNat)
def decL : Nat → List UInt8 → Bool → List (List UInt8) × List UInt8
  | 0, s, _ => ([], s)
  | d + 1, s, final => if s = [] then ([], []) else if (takeL s final).1 = [] then ([], s) else ((takeL s final).1 :: (decL d (s.drop (takeL s final).2) final).1, (decL d (s.drop (takeL s final).2) final).2)
def keyL (name : List UInt8) : Option (List UInt8) := (NL.find? fun p => p.1 == name).map (·.2)
/-- A key's bytes. -/
def bytesL (name : List UInt8) : List UInt8 × Int :=
  match keyL name with
  | some v => (v, 0)
  | none =>
    if name = [69, 115, 99] then ([27], 0)
    else if name ≠ [] ∧ letterL name = name then (name, 0)
    else if Lib.hasPrefix name [77, 45] = true ∧ letterL (name.drop 2) ≠ [] ∧ letterL (name.drop 2) = name.drop 2 ∧ letterL (name.drop 2) ≠ [91] ∧ letterL (name.drop 2) ≠ [79] then (27 :: letterL (name.drop 2), 0)
    else ([], 1)
def keys_Decode.f (a0 : ByteArray) (a1 : Bool) : Option (List ByteArray × ByteArray) := if a0.size ≤ 1000000 then some ((decL a0.size a0.data.toList a1).1.map ba, ba (decL a0.size a0.data.toList a1).2) else none
def keys_Bytes.f (a0 : ByteArray) : Option (ByteArray × Int) := if a0.size ≤ 1000000 then some (ba (bytesL a0.data.toList).1, (bytesL a0.data.toList).2) else none
/-- What is told is there. -/
theorem controlL_le : ∀ (d : Nat) (l : List UInt8) (i : Nat), ctlL d l i ≤ (l.length : Int) ∧ -1 ≤ ctlL d l i := by
  intro d
  induction d with
  | zero => intro l i; unfold ctlL; omega
  | succ d ih =>
    intro l i
    unfold ctlL
    have := ih l (i + 1)
    repeat' split
    all_goals omega
theorem letterL_pos (s : List UInt8) (h : letterL s ≠ []) : 1 ≤ (letterL s).length := by
  cases he : letterL s with
  | nil => exact absurd he h
  | cons a l => simp
theorem NL_ok : ∀ p ∈ NL, p.1 ≠ [] ∧ 1 ≤ p.2.length := by decide +kernel
theorem takeL_ok (s : List UInt8) (final : Bool) (hs : s ≠ []) (h : (takeL s final).1 ≠ []) : 1 ≤ (takeL s final).2 ∧ (takeL s final).2 ≤ s.length := by
  have hl : 1 ≤ s.length := by
    cases s with
    | nil => exact absurd rfl hs
    | cons a l => simp
  unfold takeL at h ⊢
  cases hh : hitL s with
  | some p =>
    have hm := List.mem_of_find?_eq_some hh
    have hq := List.find?_some (p := fun p : List UInt8 × List UInt8 => p.2.isPrefixOf s) hh
    have hp := (List.isPrefixOf_iff_prefix.1 hq).length_le
    exact ⟨(NL_ok p hm).2, hp⟩
  | none =>
    rw [hh] at h
    simp only at h ⊢
    split at h
    · exact absurd rfl h
    rename_i c0
    rw [if_neg c0]
    split at h
    · rename_i c1
      rw [if_pos c1]
      unfold escapedL at h ⊢
      have hc := controlL_le 9 s 2
      have hle := letterL_len (s.drop 1)
      rw [List.length_drop] at hle
      split at h
      · rename_i c2
        rw [if_pos c2]
        unfold controlL at c2 ⊢
        simp only
        omega
      · rename_i c2
        rw [if_neg c2]
        split at h
        · exact absurd rfl h
        · rename_i c3
          rw [if_neg c3]
          split at h
          · rename_i c4
            rw [if_pos c4]
            have := letterL_pos _ c4.1
            simp only
            omega
          · rename_i c4
            rw [if_neg c4]
            split at h
            · exact absurd rfl h
            · rename_i c5
              rw [if_neg c5]
              simp only
              omega
    · rename_i c1
      rw [if_neg c1]
      split at h
      · rename_i c2
        rw [if_pos c2]
        have := letterL_pos _ c2
        have := letterL_len s
        simp only
        omega
      · rename_i c2
        rw [if_neg c2]
        split at h
        · rename_i c3
          rw [if_pos c3]
          split at h
          · rename_i c4
            rw [if_pos c4]
            simp only
            omega
          · exact absurd rfl h
        · rename_i c3
          rw [if_neg c3]
          rcases firstL_len s with ⟨e, _⟩ | ⟨_, e1, e2, _⟩
          · exact absurd e c3
          · simp only
            omega
end Go.Proofs.YtbnpcnpdeinacaaDoor
end
section
namespace Go.Proofs.YtbnpcnpdeinacaaDoor
open Go.RowKit Go.Lib
set_option linter.unusedVariables false
theorem isPre_app {b s : List UInt8} (t : List UInt8) (h : b.isPrefixOf s = true) : b.isPrefixOf (s ++ t) = true := by
  rw [List.isPrefixOf_iff_prefix] at *
  exact h.trans (List.prefix_append s t)
theorem isPre_cases {b s t : List UInt8} (h : b.isPrefixOf (s ++ t) = true) : b.isPrefixOf s = true ∨ s.isPrefixOf b = true := by
  rw [List.isPrefixOf_iff_prefix] at *
  rw [List.isPrefixOf_iff_prefix]
  exact List.prefix_or_prefix_of_prefix h (List.prefix_append s t)
theorem hit_app {s : List UInt8} (t : List UInt8) {p : List UInt8 × List UInt8} (h : hitL s = some p) : hitL (s ++ t) = some p :=
  hit_eq (List.mem_of_find?_eq_some h) (isPre_app t (List.find?_some (p := fun p : List UInt8 × List UInt8 => p.2.isPrefixOf s) h))
theorem hit_no {s : List UInt8} (h : hitL s = none) : ∀ p ∈ NL, p.2.isPrefixOf s = false := by
  intro p hp
  exact Bool.eq_false_iff.2 (List.find?_eq_none.1 h p hp)
theorem hit_none_app {s : List UInt8} (t : List UInt8) (h : hitL s = none) (hb : beginsL s = false) : hitL (s ++ t) = none := by
  refine hit_none fun p hp => ?_
  cases hq : p.2.isPrefixOf (s ++ t) with
  | false => rfl
  | true =>
    rcases isPre_cases hq with h1 | h1
    · rw [hit_no h p hp] at h1; cases h1
    · have : beginsL s = true := List.any_eq_true.2 ⟨p, hp, h1⟩
      rw [this] at hb; cases hb
theorem begins_app {s : List UInt8} (t : List UInt8) (hb : beginsL s = false) : beginsL (s ++ t) = false := by
  cases h : beginsL (s ++ t) with
  | false => rfl
  | true =>
    obtain ⟨p, hp, hq⟩ := List.any_eq_true.1 h
    have : beginsL s = true := List.any_eq_true.2 ⟨p, hp, by
      rw [List.isPrefixOf_iff_prefix] at *
      exact (List.prefix_append s t).trans hq⟩
    rw [this] at hb; cases hb
theorem letterL_app (l t : List UInt8) (h : (firstL l).2.2 ≠ 2) : letterL (l ++ t) = letterL l := by
  unfold letterL
  rw [firstL_app l t h]
  split
  · split
    · rfl
    · rcases firstL_len l with ⟨e, _⟩ | ⟨_, _, e, _⟩
      · exact absurd e h
      · rw [List.take_append_of_le_length (by omega)]
  · rfl
theorem letterL_short (l : List UInt8) (h : (firstL l).2.2 = 2) : letterL l = [] := by
  unfold letterL
  rw [if_neg (by rw [h]; decide)]
theorem letterL_first {l : List UInt8} (h : letterL l ≠ []) : (firstL l).2.2 ≠ 2 := fun e => h (letterL_short l e)
theorem ctlL_app (t : List UInt8) : ∀ (d : Nat) (l : List UInt8) (i : Nat), ctlL d l i ≠ -1 → ctlL d (l ++ t) i = ctlL d l i := by
  intro d
  induction d with
  | zero => intro l i h; exact absurd rfl h
  | succ d ih =>
    intro l i h
    unfold ctlL at h ⊢
    by_cases c : i < l.length
    · rw [if_pos c] at h ⊢
      rw [if_pos (by rw [List.length_append]; omega), g_app l t i c]
      by_cases c2 : isPar (g l i) = true
      · rw [if_pos c2] at h ⊢
        rw [if_pos c2]
        by_cases c3 : i = 10
        · rw [if_pos c3, if_pos c3]
        · rw [if_neg c3] at h ⊢
          rw [if_neg c3]
          exact ih l (i + 1) h
      · rw [if_neg c2, if_neg c2]
    · rw [if_neg c] at h
      exact absurd rfl h
theorem NL_short : ∀ p ∈ NL, p.2.length ≤ 4 := by decide +kernel
theorem begins_esc : beginsL [27] = true := by decide +kernel
theorem escaped_app (s t : List UInt8) (f : Bool) (h2 : 2 ≤ s.length) (h : (escapedL s false).1 ≠ []) : escapedL (s ++ t) f = escapedL s false := by
  have hpre : Lib.hasPrefix (s ++ t) [27, 91] = Lib.hasPrefix s [27, 91] := by
    match s, h2 with
    | a :: b :: u, _ => rfl
  have hdrop : (s ++ t).drop 1 = s.drop 1 ++ t := List.drop_append_of_le_length (by omega)
  have hne : s.drop 1 ≠ [] := by
    intro e
    have := congrArg List.length e
    rw [List.length_drop, List.length_nil] at this
    omega
  unfold escapedL at h ⊢
  rw [hpre, hdrop]
  by_cases c1 : Lib.hasPrefix s [27, 91] = true ∧ 0 < controlL s
  · have hc : controlL (s ++ t) = controlL s := ctlL_app t 9 s 2 (by have := c1.2; unfold controlL at this; omega)
    rw [hc, if_pos c1, if_pos c1]
  rw [if_neg c1] at h ⊢
  by_cases c2 : Lib.hasPrefix s [27, 91] = true ∧ controlL s < 0 ∧ false = false
  · rw [if_pos c2] at h; exact absurd rfl h
  rw [if_neg c2] at h ⊢
  have hc : Lib.hasPrefix s [27, 91] = true → controlL (s ++ t) = controlL s := fun hp => ctlL_app t 9 s 2 (fun e => c2 ⟨hp, by show ctlL 9 s 2 < 0; omega, rfl⟩)
  have n1 : ¬ (Lib.hasPrefix s [27, 91] = true ∧ 0 < controlL (s ++ t)) := fun hh => c1 ⟨hh.1, by rw [← hc hh.1]; exact hh.2⟩
  have n2 : ¬ (Lib.hasPrefix s [27, 91] = true ∧ controlL (s ++ t) < 0 ∧ f = false) := fun hh => c2 ⟨hh.1, by rw [← hc hh.1]; exact hh.2.1, rfl⟩
  rw [if_neg n1, if_neg n2]
  have hf : (firstL (s.drop 1)).2.2 ≠ 2 := by
    intro e
    have hl := letterL_short _ e
    rw [if_neg (fun hh => hh.1 hl), if_pos ⟨by unfold shortL; rw [e, decide_eq_true hne]; rfl, rfl⟩] at h
    exact h rfl
  have hs : shortL (s.drop 1) = false := by unfold shortL; rw [Bool.and_eq_false_iff]; right; exact beq_eq_false_iff_ne.2 hf
  have hs2 : shortL (s.drop 1 ++ t) = false := by unfold shortL; rw [firstL_app _ t hf, Bool.and_eq_false_iff]; right; exact beq_eq_false_iff_ne.2 hf
  rw [letterL_app _ t hf, hs, hs2]
  by_cases c3 : letterL (s.drop 1) ≠ [] ∧ letterL (s.drop 1) ≠ [91] ∧ letterL (s.drop 1) ≠ [79]
  · rw [if_pos c3, if_pos c3]
  · rw [if_neg c3, if_neg c3, if_neg (fun hh => by cases hh.1), if_neg (fun hh => by cases hh.1)]
/-- A key that was taken off is taken off, whatever comes behind. -/
theorem takeL_none (s : List UInt8) (f : Bool) (h : hitL s = none) : takeL s f = if beginsL s = true ∧ f = false then ([], 0)
    else if s.take 1 = [27] then escapedL s f
    else if letterL s ≠ [] then (letterL s, (letterL s).length)
    else if (firstL s).2.2 = 2 then (if f = true then ([63], 1) else ([], 0))
    else ([63], (firstL s).2.1.toNat) := by
  unfold takeL
  rw [h]
theorem takeL_some (s : List UInt8) (f : Bool) {p : List UInt8 × List UInt8} (h : hitL s = some p) : takeL s f = (p.1, p.2.length) := by
  unfold takeL
  rw [h]
theorem takeL_app (s t : List UInt8) (f : Bool) (hs : s ≠ []) (h : (takeL s false).1 ≠ []) : takeL (s ++ t) f = takeL s false := by
  cases hh : hitL s with
  | some p => rw [takeL_some s false hh, takeL_some (s ++ t) f (hit_app t hh)]
  | none =>
    have e1 := takeL_none s false hh
    rw [e1] at h
    by_cases c0 : beginsL s = true ∧ false = false
    · rw [if_pos c0] at h; exact absurd rfl h
    have hb : beginsL s = false := by
      cases hx : beginsL s with
      | false => rfl
      | true => exact absurd ⟨hx, rfl⟩ c0
    have e2 := takeL_none (s ++ t) f (hit_none_app t hh hb)
    have h1 : (s ++ t).take 1 = s.take 1 := by
      cases s with
      | nil => exact absurd rfl hs
      | cons a l => rfl
    rw [if_neg (fun hx => by rw [begins_app t hb] at hx; cases hx.1), h1] at e2
    rw [if_neg c0] at e1 h
    rw [e1, e2]
    clear e1 e2
    by_cases c1 : s.take 1 = [27]
    · rw [if_pos c1] at h
      rw [if_pos c1, if_pos c1]
      refine escaped_app s t f ?_ h
      match s, hs, c1, hb with
      | [a], _, c1, hb =>
        obtain rfl : a = 27 := by simpa using c1
        rw [begins_esc] at hb
        cases hb
      | a :: b :: u, _, _, _ => simp
    · rw [if_neg c1] at h
      rw [if_neg c1, if_neg c1]
      by_cases c2 : letterL s ≠ []
      · rw [letterL_app s t (letterL_first c2), if_pos c2, if_pos c2]
      · rw [if_neg c2] at h
        by_cases c3 : (firstL s).2.2 = 2
        · rw [if_pos c3] at h; exact absurd rfl h
        · rw [letterL_app s t c3, firstL_app s t c3, if_neg c2, if_neg c2, if_neg c3, if_neg c3]
theorem decL_fuel : ∀ (d d' : Nat) (s : List UInt8) (f : Bool), s.length ≤ d → s.length ≤ d' → decL d s f = decL d' s f := by
  intro d
  induction d with
  | zero =>
    intro d' s f h _
    obtain rfl : s = [] := List.eq_nil_of_length_eq_zero (by omega)
    cases d' <;> rfl
  | succ d ih =>
    intro d' s f h h'
    by_cases hs : s = []
    · subst hs; cases d' <;> rfl
    have hl : 1 ≤ s.length := by
      cases s with
      | nil => exact absurd rfl hs
      | cons a l => simp
    obtain ⟨d', rfl⟩ : ∃ m, d' = m + 1 := ⟨d' - 1, by omega⟩
    unfold decL
    rw [if_neg hs, if_neg hs]
    by_cases ht : (takeL s f).1 = []
    · rw [if_pos ht, if_pos ht]
    · rw [if_neg ht, if_neg ht]
      obtain ⟨n1, n2⟩ := takeL_ok s f hs ht
      rw [ih d' (s.drop (takeL s f).2) f (by rw [List.length_drop]; omega) (by rw [List.length_drop]; omega)]
/-- Bytes in two parts. -/
theorem decL_app (t : List UInt8) (f : Bool) : ∀ (d : Nat) (s : List UInt8), s.length ≤ d →
    decL (s ++ t).length (s ++ t) f = ((decL d s false).1 ++ (decL ((decL d s false).2 ++ t).length ((decL d s false).2 ++ t) f).1, (decL ((decL d s false).2 ++ t).length ((decL d s false).2 ++ t) f).2) := by
  intro d
  induction d with
  | zero =>
    intro s h
    obtain rfl : s = [] := List.eq_nil_of_length_eq_zero (by omega)
    rfl
  | succ d ih =>
    intro s h
    by_cases hs : s = []
    · subst hs; rfl
    have hl : 1 ≤ s.length := by
      cases s with
      | nil => exact absurd rfl hs
      | cons a l => simp
    by_cases ht : (takeL s false).1 = []
    · have e : decL (d + 1) s false = ([], s) := by unfold decL; rw [if_neg hs, if_pos ht]
      rw [e]; rfl
    · obtain ⟨n1, n2⟩ := takeL_ok s false hs ht
      have e : decL (d + 1) s false = ((takeL s false).1 :: (decL d (s.drop (takeL s false).2) false).1, (decL d (s.drop (takeL s false).2) false).2) := by
        show (if s = [] then _ else _) = _
        rw [if_neg hs, if_neg ht]
      have hta := takeL_app s t f hs ht
      have hst : s ++ t ≠ [] := by
        intro e
        exact hs (List.append_eq_nil_iff.1 e).1
      obtain ⟨m, hm⟩ : ∃ m, (s ++ t).length = m + 1 := ⟨(s ++ t).length - 1, by rw [List.length_append]; omega⟩
      have hdr : (s ++ t).drop (takeL s false).2 = s.drop (takeL s false).2 ++ t := List.drop_append_of_le_length n2
      have e2 : decL (s ++ t).length (s ++ t) f = ((takeL s false).1 :: (decL m (s.drop (takeL s false).2 ++ t) f).1, (decL m (s.drop (takeL s false).2 ++ t) f).2) := by
        rw [hm]
        show (if s ++ t = [] then _ else _) = _
        rw [if_neg hst, hta, if_neg ht, hdr]
      rw [List.length_append] at hm
      have hfu := decL_fuel m (s.drop (takeL s false).2 ++ t).length (s.drop (takeL s false).2 ++ t) f (by rw [List.length_append, List.length_drop]; omega) (Nat.le_refl _)
      have hih := ih (s.drop (takeL s false).2) (by rw [List.length_drop]; omega)
      rw [e2, hfu, hih, e]
      rfl
end Go.Proofs.YtbnpcnpdeinacaaDoor
end
