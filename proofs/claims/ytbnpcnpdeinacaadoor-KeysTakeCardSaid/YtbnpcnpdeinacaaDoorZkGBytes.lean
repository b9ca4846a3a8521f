-- Copies of the texts YtbnpcnpdeinacaaDoorMK2, YtbnpcnpdeinacaaDoorMK3, YtbnpcnpdeinacaaDoorPx3, YtbnpcnpdeinacaaDoorGBytes with what this claim does not reach left out (prune.py, a program of this project).
import Derived.Test.YtbnpcnpdeinacaaDoorZkMK0
import Derived.Test.YtbnpcnpdeinacaaDoorZkMK1
import Derived.Test.YtbnpcnpdeinacaaDoorZkPx0
import Derived.Lib.Hide
section
namespace Go.Proofs.YtbnpcnpdeinacaaDoor
open Go.RowKit Go.Lib Go.Proofs.YtbnpcnpdeinacaaDoorW.PrintWords Go.Proofs.YtbnpcnpdeinacaaDoorW.PrintLast Go.Proofs.YtbnpcnpdeinacaaDoorW.PrintMore Go.Proofs.YtbnpcnpdeinacaaDoor.P
set_option linter.unusedVariables false
theorem toList_take (s : ByteArray) (n : Nat) : (s.extract 0 n).data.toList = s.data.toList.take n := by rw [toList_extract, List.drop_zero, Nat.sub_zero]
theorem toList_drop (s : ByteArray) (n : Nat) : (s.extract n s.size).data.toList = s.data.toList.drop n := by
  rw [toList_extract, List.take_of_length_le]
  rw [List.length_drop, size_len]; omega
theorem take_pre (b s : List UInt8) (h : b.length ≤ s.length) : (s.take b.length == b) = b.isPrefixOf s := by
  rw [Bool.eq_iff_iff, beq_iff_eq, List.isPrefixOf_iff_prefix, List.prefix_iff_eq_take]
  exact eq_comm
theorem hasPrefix_go (a b : ByteArray) : strings_HasPrefix.f a b = some (Lib.hasPrefix a.data.toList b.data.toList) := by
  unfold strings_HasPrefix.f stringslite_HasPrefix.f
  by_cases h : (a.size : Int) ≥ (b.size : Int)
  · rw [if_pos h, if_pos (by omega), if_pos h, Option.bind_some]
    congr 1
    rw [Lib.toList_data, Lib.toList_data, Int.toNat_natCast, toList_take, size_len]
    exact take_pre _ _ (by rw [← size_len, ← size_len]; omega)
  · rw [if_neg h, Option.bind_some]
    congr 1
    symm
    rw [Bool.eq_false_iff]
    intro hp
    have := (List.isPrefixOf_iff_prefix.1 hp).length_le
    rw [← size_len, ← size_len] at this
    omega
theorem esc_j1 (k : Nat) (x1 : Bool) (x7 x8 : ByteArray) (b : Bool) : keys_escaped.j1 (k + 1) x1 x7 x8 b = if b = true then (if 2 + x8.size ≤ 9223372036854775807 then (some ((⟨#[77, 45]⟩ : ByteArray) ++ x8, wrap64 (1 + (x8.size : Int)))) else (none)) else ((keys_short.f k x7).bind fun t116 => (if t116 = true then (if x1 = true then (some ((⟨#[69, 115, 99]⟩ : ByteArray), 1)) else (some ((⟨#[]⟩ : ByteArray), 0))) else (some ((⟨#[69, 115, 99]⟩ : ByteArray), 1)))) := by simp only [keys_escaped.j1]
theorem esc_j0 (k : Nat) (s : ByteArray) (x1 : Bool) : keys_escaped.j0 (k + 1) s x1 = if 1 ≤ (s.size : Int) then ((keys_letter.f k (s.extract 1 s.size)).bind fun t115 => (if t115.toList = ([] : List UInt8) then (keys_escaped.j1 k x1 (s.extract 1 s.size) t115 false) else (if t115.toList = ([91] : List UInt8) then (keys_escaped.j1 k x1 (s.extract 1 s.size) t115 false) else (keys_escaped.j1 k x1 (s.extract 1 s.size) t115 (t115.toList != ([79] : List UInt8)))))) else (none) := by simp only [keys_escaped.j0]
theorem letterL_len (l : List UInt8) : (letterL l).length ≤ l.length := by
  unfold letterL
  split
  · split
    · simp
    · rw [List.length_take]; omega
  · simp
def behindL (s : List UInt8) (final : Bool) : List UInt8 × Nat :=
  if letterL (s.drop 1) ≠ [] ∧ letterL (s.drop 1) ≠ [91] ∧ letterL (s.drop 1) ≠ [79] then ([77, 45] ++ letterL (s.drop 1), 1 + (letterL (s.drop 1)).length)
  else if shortL (s.drop 1) = true ∧ final = false then ([], 0)
  else ([69, 115, 99], 1)
def pairF (p : List UInt8 × Nat) : ByteArray × Int := (ba p.1, (p.2 : Int))
theorem behind_go (s : ByteArray) (final : Bool) (k : Nat) (hk : 10 ≤ k) (h1 : 1 ≤ s.size) (h2 : s.size ≤ 1000000) : keys_escaped.j0 k s final = some (pairF (behindL s.data.toList final)) := by
  obtain ⟨k, rfl⟩ : ∃ m, k = m + 1 + 1 := ⟨k - 2, by omega⟩
  rw [esc_j0, if_pos (by omega), letter_go _ _ (by omega), Option.bind_some, Lib.toList_data, ba_data, toList_drop, esc_j1, esc_j1, short_go _ _ (by omega), toList_drop]
  have hle := letterL_len (s.data.toList.drop 1)
  rw [List.length_drop, ← size_len] at hle
  have hend : ((some (shortL (List.drop 1 s.data.toList))).bind fun t116 => (if t116 = true then (if final = true then (some ((⟨#[69, 115, 99]⟩ : ByteArray), (1 : Int))) else (some ((⟨#[]⟩ : ByteArray), 0))) else (some ((⟨#[69, 115, 99]⟩ : ByteArray), 1)))) =
      some (pairF (if shortL (s.data.toList.drop 1) = true ∧ final = false then (([], 0) : List UInt8 × Nat) else ([69, 115, 99], 1))) := by
    rw [Option.bind_some]
    cases shortL (s.data.toList.drop 1) <;> cases final <;> rfl
  by_cases c1 : letterL (s.data.toList.drop 1) = []
  · have hb : behindL s.data.toList final = _ := if_neg (show ¬ (letterL (s.data.toList.drop 1) ≠ [] ∧ letterL (s.data.toList.drop 1) ≠ [91] ∧ letterL (s.data.toList.drop 1) ≠ [79]) from fun h => h.1 c1)
    rw [if_pos c1, hb]
    exact hend
  · rw [if_neg c1]
    by_cases c2 : letterL (s.data.toList.drop 1) = [91]
    · have hb : behindL s.data.toList final = _ := if_neg (show ¬ (letterL (s.data.toList.drop 1) ≠ [] ∧ letterL (s.data.toList.drop 1) ≠ [91] ∧ letterL (s.data.toList.drop 1) ≠ [79]) from fun h => h.2.1 c2)
      rw [if_pos c2, hb]
      exact hend
    · rw [if_neg c2]
      by_cases c3 : letterL (s.data.toList.drop 1) = [79]
      · have hb : behindL s.data.toList final = _ := if_neg (show ¬ (letterL (s.data.toList.drop 1) ≠ [] ∧ letterL (s.data.toList.drop 1) ≠ [91] ∧ letterL (s.data.toList.drop 1) ≠ [79]) from fun h => h.2.2 c3)
        have hn : (letterL (s.data.toList.drop 1) != [79]) = false := by rw [c3]; rfl
        rw [hn, hb]
        exact hend
      · have hb : behindL s.data.toList final = _ := if_pos ⟨c1, c2, c3⟩
        have hn : (letterL (s.data.toList.drop 1) != [79]) = true := by rw [bne_iff_ne]; exact c3
        rw [hn, if_pos rfl, ba_size, if_pos (by omega), hb]
        congr 1
        refine Prod.ext ?_ ?_
        · exact ba_ext _ _ (by rw [ByteArray.data_append, Array.toList_append]; rfl)
        · show wrap64 (1 + ((letterL (s.data.toList.drop 1)).length : Int)) = ((1 + (letterL (s.data.toList.drop 1)).length : Nat) : Int)
          unfold wrap64
          omega
theorem escaped_go (s : ByteArray) (final : Bool) (k : Nat) (hk : 30 ≤ k) (h1 : 1 ≤ s.size) (h2 : s.size ≤ 1000000) : keys_escaped.f k s final = some (pairF (escapedL s.data.toList final)) := by
  unfold keys_escaped.f
  rw [hasPrefix_go, Option.bind_some, behind_go s final k (by omega) h1 h2, control_go s k (by omega)]
  show (if Lib.hasPrefix s.data.toList [27, 91] = true then _ else _) = _
  have hE : escapedL s.data.toList final = if Lib.hasPrefix s.data.toList [27, 91] = true ∧ 0 < controlL s.data.toList then ([63], (controlL s.data.toList).toNat) else if Lib.hasPrefix s.data.toList [27, 91] = true ∧ controlL s.data.toList < 0 ∧ final = false then ([], 0) else behindL s.data.toList final := rfl
  by_cases hp : Lib.hasPrefix s.data.toList [27, 91] = true
  · rw [if_pos hp, Option.bind_some]
    by_cases c1 : controlL s.data.toList > 0
    · have e : escapedL s.data.toList final = _ := hE.trans (if_pos ⟨hp, c1⟩)
      rw [if_pos c1, e]
      congr 1
      refine Prod.ext rfl ?_
      show controlL s.data.toList = ((controlL s.data.toList).toNat : Int)
      omega
    · replace hE := hE.trans (if_neg (fun h => c1 h.2))
      rw [if_neg c1]
      by_cases c2 : controlL s.data.toList < 0
      · rw [if_pos c2]
        cases final with
        | true =>
          have e : escapedL s.data.toList true = _ := hE.trans (if_neg (fun h => by cases h.2.2))
          rw [if_pos rfl, e]
        | false =>
          have e : escapedL s.data.toList false = _ := hE.trans (if_pos ⟨hp, c2, rfl⟩)
          rw [if_neg (by decide), e]; rfl
      · have e : escapedL s.data.toList final = _ := hE.trans (if_neg (fun h => c2 h.2.1))
        rw [if_neg c2, e]
  · have e : escapedL s.data.toList final = _ := (hE.trans (if_neg (fun h => hp h.1))).trans (if_neg (fun h => hp h.1))
    rw [if_neg hp, e]
/-- A key taken off bytes that are there: its name and how many bytes; no name: they may go on. -/
def takeL (s : List UInt8) (final : Bool) : List UInt8 × Nat :=
  match hitL s with
  | some p => (p.1, p.2.length)
  | none =>
    if beginsL s = true ∧ final = false then ([], 0)
    else if s.take 1 = [27] then escapedL s final
    else if letterL s ≠ [] then (letterL s, (letterL s).length)
    else if (firstL s).2.2 = 2 then (if final = true then ([63], 1) else ([], 0))
    else ([63], (firstL s).2.1.toNat)
def decL : Nat → List UInt8 → Bool → List (List UInt8) × List UInt8
  | 0, s, _ => ([], s)
  | d + 1, s, final => if s = [] then ([], []) else if (takeL s final).1 = [] then ([], s) else ((takeL s final).1 :: (decL d (s.drop (takeL s final).2) final).1, (decL d (s.drop (takeL s final).2) final).2)
def keyL (name : List UInt8) : Option (List UInt8) := (NL.find? fun p => p.1 == name).map (·.2)
/-- A key's bytes. -/
def bytesL (name : List UInt8) : List UInt8 × Int :=
  match keyL name with
  | some v => (v, 0)
  | none =>
    if name = [69, 115, 99] then ([27], 0)
    else if name ≠ [] ∧ letterL name = name then (name, 0)
    else if Lib.hasPrefix name [77, 45] = true ∧ letterL (name.drop 2) ≠ [] ∧ letterL (name.drop 2) = name.drop 2 ∧ letterL (name.drop 2) ≠ [91] ∧ letterL (name.drop 2) ≠ [79] then (27 :: letterL (name.drop 2), 0)
    else ([], 1)
def keys_Decode.f (a0 : ByteArray) (a1 : Bool) : Option (List ByteArray × ByteArray) := if a0.size ≤ 1000000 then some ((decL a0.size a0.data.toList a1).1.map ba, ba (decL a0.size a0.data.toList a1).2) else none
def keys_Bytes.f (a0 : ByteArray) : Option (ByteArray × Int) := if a0.size ≤ 1000000 then some (ba (bytesL a0.data.toList).1, (bytesL a0.data.toList).2) else none
/-- What is told is there. -/
theorem controlL_le : ∀ (d : Nat) (l : List UInt8) (i : Nat), ctlL d l i ≤ (l.length : Int) ∧ -1 ≤ ctlL d l i := by
  intro d
  induction d with
  | zero => intro l i; unfold ctlL; omega
  | succ d ih =>
    intro l i
    unfold ctlL
    have := ih l (i + 1)
    repeat' split
    all_goals omega
theorem letterL_pos (s : List UInt8) (h : letterL s ≠ []) : 1 ≤ (letterL s).length := by
  cases he : letterL s with
  | nil => exact absurd he h
  | cons a l => simp
theorem NL_ok : ∀ p ∈ NL, p.1 ≠ [] ∧ 1 ≤ p.2.length := by decide +kernel
theorem takeL_ok (s : List UInt8) (final : Bool) (hs : s ≠ []) (h : (takeL s final).1 ≠ []) : 1 ≤ (takeL s final).2 ∧ (takeL s final).2 ≤ s.length := by
  have hl : 1 ≤ s.length := by
    cases s with
    | nil => exact absurd rfl hs
    | cons a l => simp
  unfold takeL at h ⊢
  cases hh : hitL s with
  | some p =>
    have hm := List.mem_of_find?_eq_some hh
    have hq := List.find?_some (p := fun p : List UInt8 × List UInt8 => p.2.isPrefixOf s) hh
    have hp := (List.isPrefixOf_iff_prefix.1 hq).length_le
    exact ⟨(NL_ok p hm).2, hp⟩
  | none =>
    rw [hh] at h
    simp only at h ⊢
    split at h
    · exact absurd rfl h
    rename_i c0
    rw [if_neg c0]
    split at h
    · rename_i c1
      rw [if_pos c1]
      unfold escapedL at h ⊢
      have hc := controlL_le 9 s 2
      have hle := letterL_len (s.drop 1)
      rw [List.length_drop] at hle
      split at h
      · rename_i c2
        rw [if_pos c2]
        unfold controlL at c2 ⊢
        simp only
        omega
      · rename_i c2
        rw [if_neg c2]
        split at h
        · exact absurd rfl h
        · rename_i c3
          rw [if_neg c3]
          split at h
          · rename_i c4
            rw [if_pos c4]
            have := letterL_pos _ c4.1
            simp only
            omega
          · rename_i c4
            rw [if_neg c4]
            split at h
            · exact absurd rfl h
            · rename_i c5
              rw [if_neg c5]
              simp only
              omega
    · rename_i c1
      rw [if_neg c1]
      split at h
      · rename_i c2
        rw [if_pos c2]
        have := letterL_pos _ c2
        have := letterL_len s
        simp only
        omega
      · rename_i c2
        rw [if_neg c2]
        split at h
        · rename_i c3
          rw [if_pos c3]
          split at h
          · rename_i c4
            rw [if_pos c4]
            simp only
            omega
          · exact absurd rfl h
        · rename_i c3
          rw [if_neg c3]
          rcases firstL_len s with ⟨e, _⟩ | ⟨_, e1, e2, _⟩
          · exact absurd e c3
          · simp only
            omega
end Go.Proofs.YtbnpcnpdeinacaaDoor
end
section
namespace Go.Proofs.YtbnpcnpdeinacaaDoor
open Go.RowKit Go.Lib
set_option linter.unusedVariables false
/-- A key that was taken off is taken off, whatever comes behind. -/
theorem takeL_none (s : List UInt8) (f : Bool) (h : hitL s = none) : takeL s f = if beginsL s = true ∧ f = false then ([], 0)
    else if s.take 1 = [27] then escapedL s f
    else if letterL s ≠ [] then (letterL s, (letterL s).length)
    else if (firstL s).2.2 = 2 then (if f = true then ([63], 1) else ([], 0))
    else ([63], (firstL s).2.1.toNat) := by
  unfold takeL
  rw [h]
theorem takeL_some (s : List UInt8) (f : Bool) {p : List UInt8 × List UInt8} (h : hitL s = some p) : takeL s f = (p.1, p.2.length) := by
  unfold takeL
  rw [h]
theorem decL_count (f : Bool) : ∀ (d : Nat) (s : List UInt8), (decL d s f).1.length ≤ d := by
  intro d
  induction d with
  | zero => intro s; simp [decL]
  | succ d ih =>
    intro s
    unfold decL
    split
    · simp
    · split
      · simp
      · simp only [List.length_cons]
        have := ih (s.drop (takeL s f).2)
        omega
end Go.Proofs.YtbnpcnpdeinacaaDoor
end
section
namespace Go.Proofs.YtbnpcnpdeinacaaDoor.P
open Go.RowKit Go.Proofs.YtbnpcnpdeinacaaDoor Go.Proofs.YtbnpcnpdeinacaaDoorW.PrintWords Go.Proofs.YtbnpcnpdeinacaaDoorW.PrintLast Go.Proofs.YtbnpcnpdeinacaaDoorW.PrintMore
attribute [local go_sem] max2_int min2_int max_two min_two max_three min_three max_four min_four   -- for this text's walks alone
set_option linter.unusedVariables false
set_option linter.unusedSimpArgs false
mutual
def backseatref01_need.j0 : Nat → Int → Bool → Option (Int)
  | 0, _, _ => none
  | k + 1, x0, x10 => if x10 = true then (some 2) else (if x0 ≥ 224 then (backseatref01_need.j1 k x0 (decide (x0 < 240))) else (backseatref01_need.j1 k x0 false))
def backseatref01_need.j1 : Nat → Int → Bool → Option (Int)
  | 0, _, _ => none
  | k + 1, x0, x16 => if x16 = true then (some 3) else (if x0 ≥ 240 then (if x0 < 245 then (some 4) else (some 0)) else (some 0))
end
def backseatref01_need.f (k : Nat) (a0 : Int) : Option (Int) := if a0 < 128 then (some 1) else (if a0 ≥ 194 then (backseatref01_need.j0 k a0 (decide (a0 < 224))) else (backseatref01_need.j0 k a0 false))
theorem backseatref01_need.mono_l : ∀ k, (∀ y0 y1, LeO (backseatref01_need.j0 k y0 y1) (backseatref01_need.j0 (k + 1) y0 y1)) ∧ (∀ y0 y1, LeO (backseatref01_need.j1 k y0 y1) (backseatref01_need.j1 (k + 1) y0 y1))
  | 0 => ⟨fun _ _ r h => by simp [backseatref01_need.j0] at h, fun _ _ r h => by simp [backseatref01_need.j1] at h⟩
  | k + 1 => by
    obtain ⟨ih0, ih1⟩ := backseatref01_need.mono_l k
    refine ⟨?_, ?_⟩
    · intro y0 y1
      unfold backseatref01_need.j0
      repeat' first
      | (with_reducible exact ih0 _ _)
      | (with_reducible exact ih1 _ _)
      | (with_reducible exact LeO.refl _)
      | (with_reducible exact LeO.none _)
      | (with_reducible refine LeO.ite ?_ ?_)
      | (with_reducible refine LeO.bind ?_ (fun _ => ?_))
      | exact ih0 _ _
      | exact ih1 _ _
      | exact LeO.none _
      | refine LeO.ite ?_ ?_
      | refine LeO.bind ?_ (fun _ => ?_)
    · intro y0 y1
      unfold backseatref01_need.j1
      repeat' first
      | (with_reducible exact ih0 _ _)
      | (with_reducible exact ih1 _ _)
      | (with_reducible exact LeO.refl _)
      | (with_reducible exact LeO.none _)
      | (with_reducible refine LeO.ite ?_ ?_)
      | (with_reducible refine LeO.bind ?_ (fun _ => ?_))
      | exact ih0 _ _
      | exact ih1 _ _
      | exact LeO.none _
      | refine LeO.ite ?_ ?_
      | refine LeO.bind ?_ (fun _ => ?_)
theorem backseatref01_need.mono : ∀ a0 k, LeO (backseatref01_need.f k a0) (backseatref01_need.f (k + 1) a0) := by
  intro a0 k
  obtain ⟨ih0, ih1⟩ := backseatref01_need.mono_l k
  unfold backseatref01_need.f
  repeat' first
      | (with_reducible exact ih0 _ _)
      | (with_reducible exact ih1 _ _)
      | (with_reducible exact LeO.refl _)
      | (with_reducible exact LeO.none _)
      | (with_reducible refine LeO.ite ?_ ?_)
      | (with_reducible refine LeO.bind ?_ (fun _ => ?_))
      | exact ih0 _ _
      | exact ih1 _ _
      | exact LeO.none _
      | refine LeO.ite ?_ ?_
      | refine LeO.bind ?_ (fun _ => ?_)
set_option maxHeartbeats 8000000 in
set_option maxRecDepth 100000 in
theorem backseatref01_need.calls (k : Nat) (a0 : Int) (r : Int) (w : World) (h : backseatref01_need.f k a0 = some r) :
    Calls Tryd.prog 45 #[.int .u8 a0] w fun e w' => e = .returned (.int .i64 r) ∧ Drawn0 w w' := by
  have H : (if a0 < 128 then (some 1) else (if a0 ≥ 194 then (backseatref01_need.j0 k a0 (decide (a0 < 224))) else (backseatref01_need.j0 k a0 false))) = some r := h
  clear h
  by_cases c2 : a0 < 128
  · rw [if_pos c2] at H
    have c2b0 : decide (a0 < 128) = true := decide_eq_true c2
    clear c2
    obtain rfl := Option.some.inj H
    go_enter Tryd.func45, Tryd.ntmps45
    go_wp2
    go_ret
    exact ⟨by first | rfl | (simp; done) | (simp [*]; done), by repeat (first | exact Drawn0.refl _ | apply Drawn0.step)⟩
  · rw [if_neg c2] at H
    have c2b0 : decide (a0 < 128) = false := decide_eq_false c2
    clear c2
    have HC3 := Aside0.mk H
    clear H
    go_enter Tryd.func45, Tryd.ntmps45
    go_upto_region 3 with (fail)
    go_cut [10] (fun v10 wc => ∃ (kq : Nat) (x10_2 : Bool), v10 = .bool x10_2 ∧ Aside0 (backseatref01_need.j0 kq a0 x10_2 = some r) ∧ Aside0 (kq ≤ k) ∧ Drawn0 w wc)
    case first =>
      have H := HC3.out
      clear HC3
      by_cases c4 : a0 ≥ 194
      · rw [if_pos c4] at H
        have c4b0 : decide (194 ≤ a0) = true := decide_eq_true c4
        clear c4
        (first | rw [c4b0] | (simp only [i64_w, i32_w]; rw [c4b0]) | skip)
        have H' := Aside0.mk H
        clear H
        go_wp2
        go_meet
        case rel => exact ⟨_, (decide (a0 < 224)), (by first | rfl | (simp; done) | (simp [*]; done)), H', ⟨by first | omega | exact Nat.le_refl _⟩, by repeat (first | exact Drawn0.refl _ | apply Drawn0.step)⟩
      · rw [if_neg c4] at H
        have c4b0 : decide (194 ≤ a0) = false := decide_eq_false c4
        clear c4
        (first | rw [c4b0] | (simp only [i64_w, i32_w]; rw [c4b0]) | skip)
        have H' := Aside0.mk H
        clear H
        go_wp2
        go_meet
        case rel => exact ⟨_, (false), (by first | rfl | (simp; done) | (simp [*]; done)), H', ⟨by first | omega | exact Nat.le_refl _⟩, by repeat (first | exact Drawn0.refl _ | apply Drawn0.step)⟩
    case rest =>
      clear HC3
      try clear c2
      try clear c2b0
      try clear p2
      try clear c4
      try clear c4b0
      obtain ⟨kq, x10_2, rfl, HA, HJ2, ⟨mc2, rfl⟩⟩ := hcut
      cases kq with
      | zero => exact absurd HA.out (by simp [backseatref01_need.j0])
      | succ kj2 =>
        have H := HA.out
        clear HA
        simp only [backseatref01_need.j0] at H
        by_cases c5 : x10_2 = true
        · subst c5
          have H1 : (some 2) = some r := by rw [if_pos rfl] at H; exact H
          clear H
          have H := H1
          clear H1
          obtain rfl := Option.some.inj H
          go_wp2
          go_ret
          exact ⟨by first | rfl | (simp; done) | (simp [*]; done), by repeat (first | exact Drawn0.refl _ | apply Drawn0.step)⟩
        · replace c5 := Bool.eq_false_iff.mpr c5
          subst c5
          have H1 : (if a0 ≥ 224 then (backseatref01_need.j1 kj2 a0 (decide (a0 < 240))) else (backseatref01_need.j1 kj2 a0 false)) = some r := by rw [if_neg (show ¬ (false = true) by decide)] at H; exact H
          clear H
          have H := H1
          clear H1
          have HC6 := Aside0.mk H
          clear H
          go_upto_region 5 with (fail)
          go_cut [16] (fun v16 wc => ∃ (kq : Nat) (x16_5 : Bool), v16 = .bool x16_5 ∧ Aside0 (backseatref01_need.j1 kq a0 x16_5 = some r) ∧ Aside0 (kq ≤ kj2) ∧ Drawn0 w wc)
          case first =>
            have H := HC6.out
            clear HC6
            by_cases c7 : a0 ≥ 224
            · rw [if_pos c7] at H
              have c7b0 : decide (224 ≤ a0) = true := decide_eq_true c7
              clear c7
              (first | rw [c7b0] | (simp only [i64_w, i32_w]; rw [c7b0]) | skip)
              have H' := Aside0.mk H
              clear H
              go_wp2
              go_meet
              case rel => exact ⟨_, (decide (a0 < 240)), (by first | rfl | (simp; done) | (simp [*]; done)), H', ⟨by have := HJ2.out; first | omega | exact Nat.le_refl _⟩, by repeat (first | exact Drawn0.refl _ | apply Drawn0.step)⟩
            · rw [if_neg c7] at H
              have c7b0 : decide (224 ≤ a0) = false := decide_eq_false c7
              clear c7
              (first | rw [c7b0] | (simp only [i64_w, i32_w]; rw [c7b0]) | skip)
              have H' := Aside0.mk H
              clear H
              go_wp2
              go_meet
              case rel => exact ⟨_, (false), (by first | rfl | (simp; done) | (simp [*]; done)), H', ⟨by have := HJ2.out; first | omega | exact Nat.le_refl _⟩, by repeat (first | exact Drawn0.refl _ | apply Drawn0.step)⟩
          case rest =>
            clear HC6
            try clear c2
            try clear c2b0
            try clear p2
            try clear c4
            try clear c4b0
            try clear c5
            try clear c7
            try clear c7b0
            try clear p2
            obtain ⟨kq, x16_5, rfl, HA, HJ5, ⟨mc5, rfl⟩⟩ := hcut
            cases kq with
            | zero => exact absurd HA.out (by simp [backseatref01_need.j1])
            | succ kj5 =>
              have H := HA.out
              clear HA
              simp only [backseatref01_need.j1] at H
              by_cases c8 : x16_5 = true
              · subst c8
                have H1 : (some 3) = some r := by rw [if_pos rfl] at H; exact H
                clear H
                have H := H1
                clear H1
                obtain rfl := Option.some.inj H
                go_wp2
                go_ret
                exact ⟨by first | rfl | (simp; done) | (simp [*]; done), by repeat (first | exact Drawn0.refl _ | apply Drawn0.step)⟩
              · replace c8 := Bool.eq_false_iff.mpr c8
                subst c8
                have H1 : (if a0 ≥ 240 then (if a0 < 245 then (some 4) else (some 0)) else (some 0)) = some r := by rw [if_neg (show ¬ (false = true) by decide)] at H; exact H
                clear H
                have H := H1
                clear H1
                by_cases c9 : a0 ≥ 240
                · rw [if_pos c9] at H
                  have c9b0 : decide (240 ≤ a0) = true := decide_eq_true c9
                  clear c9
                  by_cases c10 : a0 < 245
                  · rw [if_pos c10] at H
                    have c10b0 : decide (a0 < 245) = true := decide_eq_true c10
                    clear c10
                    obtain rfl := Option.some.inj H
                    go_wp2
                    go_ret
                    exact ⟨by first | rfl | (simp; done) | (simp [*]; done), by repeat (first | exact Drawn0.refl _ | apply Drawn0.step)⟩
                  · rw [if_neg c10] at H
                    have c10b0 : decide (a0 < 245) = false := decide_eq_false c10
                    clear c10
                    obtain rfl := Option.some.inj H
                    go_wp2
                    go_ret
                    exact ⟨by first | rfl | (simp; done) | (simp [*]; done), by repeat (first | exact Drawn0.refl _ | apply Drawn0.step)⟩
                · rw [if_neg c9] at H
                  have c9b0 : decide (240 ≤ a0) = false := decide_eq_false c9
                  clear c9
                  obtain rfl := Option.some.inj H
                  go_wp2
                  go_ret
                  exact ⟨by first | rfl | (simp; done) | (simp [*]; done), by repeat (first | exact Drawn0.refl _ | apply Drawn0.step)⟩
def backseatref01_value.l0 : Nat → ByteArray → Int → Int → Option (Int)
  | 0, _, _, _ => none
  | k + 1, x0, x3, x4 => if x4 < (x0.size : Int) then (if 0 ≤ x4 then (if x4 = 0 then ((some (([0, 0, 192, 224, 240] : List Int) : List Int)).bind fun y125 => (if 0 ≤ (x0.size : Int) then (if (x0.size : Int) < (y125.length : Int) then (if (x0.size : Int) = 1 then (some (wrap32 (bt x0 x4))) else (backseatref01_value.l0 k x0 (wrap32 ((wrap32 (bt x0 x4)) - (rd y125 (x0.size : Int)))) (wrap64 (x4 + 1)))) else (none)) else (none))) else (if (wrap32 (bt x0 x4)) < 128 then (some (-1)) else (if (wrap32 (bt x0 x4)) > 191 then (some (-1)) else (backseatref01_value.l0 k x0 (wrap32 ((wrap32 ((wrap32 (64 * x3)) + (wrap32 (bt x0 x4)))) - 128)) (wrap64 (x4 + 1)))))) else (none)) else (some x3)
def backseatref01_value.f (k : Nat) (a0 : ByteArray) : Option (Int) := backseatref01_value.l0 k a0 0 0
theorem backseatref01_value.mono_l : ∀ k, (∀ y0 y1 y2, LeO (backseatref01_value.l0 k y0 y1 y2) (backseatref01_value.l0 (k + 1) y0 y1 y2))
  | 0 => fun _ _ _ r h => by simp [backseatref01_value.l0] at h
  | k + 1 => by
    have ih0 := backseatref01_value.mono_l k
    · intro y0 y1 y2
      unfold backseatref01_value.l0
      repeat' first
      | (with_reducible exact ih0 _ _ _)
      | (with_reducible exact LeO.refl _)
      | (with_reducible exact LeO.none _)
      | (with_reducible refine LeO.ite ?_ ?_)
      | (with_reducible refine LeO.bind ?_ (fun _ => ?_))
      | exact ih0 _ _ _
      | exact LeO.none _
      | refine LeO.ite ?_ ?_
      | refine LeO.bind ?_ (fun _ => ?_)
theorem backseatref01_value.mono : ∀ a0 k, LeO (backseatref01_value.f k a0) (backseatref01_value.f (k + 1) a0) := by
  intro a0 k
  have ih0 := backseatref01_value.mono_l k
  unfold backseatref01_value.f
  repeat' first
      | (with_reducible exact ih0 _ _ _)
      | (with_reducible exact LeO.refl _)
      | (with_reducible exact LeO.none _)
      | (with_reducible refine LeO.ite ?_ ?_)
      | (with_reducible refine LeO.bind ?_ (fun _ => ?_))
      | exact ih0 _ _ _
      | exact LeO.none _
      | refine LeO.ite ?_ ?_
      | refine LeO.bind ?_ (fun _ => ?_)
set_option maxHeartbeats 8000000 in
set_option maxRecDepth 100000 in
theorem backseatref01_value.calls (k : Nat) (a0 : ByteArray) (r : Int) (w : World) (h : backseatref01_value.f k a0 = some r) :
    Calls Tryd.prog 47 #[.string a0] w fun e w' => e = .returned (.int .i32 r) ∧ Below w.heap.size w w' := by
  have HB := Aside0.mk (Below.refl w.heap.size w)
  have H : (backseatref01_value.l0 k a0 0 0) = some r := h
  clear h
  have H' := Aside0.mk H
  clear H
  go_enter Tryd.func47, Tryd.ntmps47
  go_wp2
  go_loopg [3, 4] k (fun kq v3 v4 w' => ∃ (x3_1 : Int) (x4_1 : Int), v3 = .int .i32 x3_1 ∧ v4 = .int .i64 x4_1 ∧ Aside0 (backseatref01_value.l0 kq a0 x3_1 x4_1 = some r) ∧ Aside0 (kq ≤ k) ∧ Aside0 (Below w.heap.size w w'))
  case atStart => exact ⟨(0), (0), (by first | rfl | (simp; done) | (simp [*]; done)), (by first | rfl | (simp; done) | (simp [*]; done)), H', ⟨Nat.le_refl _⟩, ⟨by repeat (first | (with_reducible first | exact HB.out | apply below_alloc | apply pw_below_drewN | apply below_drew1) | exact HB.out)⟩⟩
  case round =>
    clear H'
    obtain ⟨x3_1, x4_1, rfl, rfl, HA, HK1, HB⟩ := hrel
    cases gk with
    | zero => exact absurd HA.out (by simp [backseatref01_value.l0])
    | succ k1 =>
      have H := HA.out
      clear HA
      simp only [backseatref01_value.l0] at H
      by_cases c2 : x4_1 < (a0.size : Int)
      · rw [if_pos c2] at H
        have c2b0 : decide (x4_1 < (a0.size : Int)) = true := decide_eq_true c2
        clear c2
        by_cases c3 : 0 ≤ x4_1
        · rw [if_pos c3] at H
          have c3b0 : decide (0 ≤ x4_1) = true := decide_eq_true c3
          clear c3
          by_cases c5 : x4_1 = 0
          · rw [if_pos c5] at H
            have c5b0 : (x4_1 == 0) = true := beq_iff_eq.mpr c5
            have c5b1 : (x4_1 != 0) = false := bne_eq_false_iff_eq.mpr c5
            clear c5
            obtain ⟨y125, hy125⟩ : ∃ y_ : List Int, y_ = (([0, 0, 192, 224, 240] : List Int)) := ⟨_, rfl⟩
            replace H : (if 0 ≤ (a0.size : Int) then (if (a0.size : Int) < (y125.length : Int) then (if (a0.size : Int) = 1 then (some (wrap32 (bt a0 x4_1))) else (backseatref01_value.l0 k1 a0 (wrap32 ((wrap32 (bt a0 x4_1)) - (rd y125 (a0.size : Int)))) (wrap64 (x4_1 + 1)))) else (none)) else (none)) = some r := by first | (rw [hy125]; with_reducible exact H) | (have H2_ := (Option.bind_some _ _).symm.trans H; rw [hy125]; with_reducible exact H2_) | (have H2_ := (Option.bind_some _ _).symm.trans H; with_reducible exact H2_) | with_reducible exact H | (rw [hy125]; exact H) | exact H
            have Ny125 := Aside0.mk hy125
            clear hy125
            by_cases c6 : 0 ≤ (a0.size : Int)
            · rw [if_pos c6] at H
              have c6b0 : decide (0 ≤ (a0.size : Int)) = true := decide_eq_true c6
              have c6b1 : decide (0 ≤ a0.size) = true := decide_eq_true (by omega)
              clear c6
              by_cases c7 : (a0.size : Int) < (y125.length : Int)
              · rw [if_pos c7] at H
                have c7b0 : decide ((a0.size : Int) < (y125.length : Int)) = true := decide_eq_true c7
                have c7b1 : decide (a0.size < y125.length) = true := decide_eq_true (Int.ofNat_lt.mp c7)
                clear c7
                by_cases c8 : (a0.size : Int) = 1
                · rw [if_pos c8] at H
                  have c8b0 : ((a0.size : Int) == 1) = true := beq_iff_eq.mpr c8
                  have c8b1 : ((a0.size : Int) != 1) = false := bne_eq_false_iff_eq.mpr c8
                  clear c8
                  obtain rfl := Option.some.inj H
                  have p4 : 0 ≤ (x4_1 : Int) := of_decide_eq_true (by first | (with_reducible assumption) | assumption)
                  have q4 : x4_1 < (a0.size : Int) := of_decide_eq_true (by first | (with_reducible assumption) | assumption)
                  have hx4 := bt_at a0 x4_1
                  replace p4 := eq_true p4
                  replace q4 := eq_true q4
                  go_wp2_with (first | ((with_reducible refine gate_dst (N := 19) rfl ?_); refine Kd.R_lit (Kd.int .i32) _ 21 ?hg (N := 19) ?hd (xs := ([0, 0, 192, 224, 240] : List Int)) (inner := [.int .i32 0, .int .i32 0, .int .i32 192, .int .i32 224, .int .i32 240]) (ok := fun _ => True) (okp := fun _ => True) ?hr ?hp (fun _ hk => hk) trivial (Below.refl _ _) (Nat.le_refl _) (by simp) ?_; (case hd => rfl); (case hg => rfl); (case hr => first | (go_simp; done) | (go_simp; rfl)); (case hp => exact (Reps.one (show Kd.M (Kd.int .i32) _ _ _ 0 [.int .i32 0] from rfl) (Reps.one (show Kd.M (Kd.int .i32) _ _ _ 0 [.int .i32 0] from rfl) (Reps.one (show Kd.M (Kd.int .i32) _ _ _ 192 [.int .i32 192] from rfl) (Reps.one (show Kd.M (Kd.int .i32) _ _ _ 224 [.int .i32 224] from rfl) (Reps.one (show Kd.M (Kd.int .i32) _ _ _ 240 [.int .i32 240] from rfl) (Reps.none _ _))))))); intro v126 w9 ho10 hb hg_ hnew_; clear hg_ hnew_; (first | rw [← Ny125.out] at ho10 | (simp only [Int.reduceToNat] at ho10; rw [← Ny125.out] at ho10)); have n0_ := Aside0.mk (Kd.R_lower ho10 (below_size (by repeat (first | (with_reducible first | exact HB.out | apply below_alloc | apply pw_below_drewN | apply below_drew1) | exact HB.out)))); have n1_ := Aside0.mk (below_step (by repeat (first | (with_reducible first | exact HB.out | apply below_alloc | apply pw_below_drewN | apply below_drew1) | exact HB.out)) hb); clear HB; have HO127 := n0_; have HB := n1_; clear n0_ n1_; clear hb ho10; obtain ⟨Ao11, co11, eo11⟩ := Kd.R_slice HO127.out; subst eo11; have p128 : 0 ≤ ((a0.size : Int) : Int) := of_decide_eq_true (by first | (with_reducible assumption) | assumption); have q128 : (a0.size : Int) < (y125.length : Int) := of_decide_eq_true (by first | (with_reducible assumption) | assumption); obtain ⟨ad128, e128, hx128_0⟩ := Kd.at_int (Kd.R_reads' HO127.out).2.2 (a0.size : Int) p128 q128; cases e128; (try simp only [Go.IntWalk.toNatUp] at hx128_0); replace p128 := eq_true p128; replace q128 := eq_true q128))
                  go_ret
                  exact ⟨by first | rfl | (simp [errW_none, errW_some] <;> rfl) | (simp [*, errW_none, errW_some] <;> rfl), by repeat (first | (with_reducible first | exact HB.out | apply below_alloc | apply pw_below_drewN | apply below_drew1) | exact HB.out)⟩
                · rw [if_neg c8] at H
                  have c8b0 : ((a0.size : Int) == 1) = false := beq_eq_false_iff_ne.mpr c8
                  have c8b1 : ((a0.size : Int) != 1) = true := bne_iff_ne.mpr c8
                  have H' := Aside0.mk H
                  clear H
                  have p4 : 0 ≤ (x4_1 : Int) := of_decide_eq_true (by first | (with_reducible assumption) | assumption)
                  have q4 : x4_1 < (a0.size : Int) := of_decide_eq_true (by first | (with_reducible assumption) | assumption)
                  have hx4 := bt_at a0 x4_1
                  replace p4 := eq_true p4
                  replace q4 := eq_true q4
                  go_wp2_with (first | ((with_reducible refine gate_dst (N := 19) rfl ?_); refine Kd.R_lit (Kd.int .i32) _ 21 ?hg (N := 19) ?hd (xs := ([0, 0, 192, 224, 240] : List Int)) (inner := [.int .i32 0, .int .i32 0, .int .i32 192, .int .i32 224, .int .i32 240]) (ok := fun _ => True) (okp := fun _ => True) ?hr ?hp (fun _ hk => hk) trivial (Below.refl _ _) (Nat.le_refl _) (by simp) ?_; (case hd => rfl); (case hg => rfl); (case hr => first | (go_simp; done) | (go_simp; rfl)); (case hp => exact (Reps.one (show Kd.M (Kd.int .i32) _ _ _ 0 [.int .i32 0] from rfl) (Reps.one (show Kd.M (Kd.int .i32) _ _ _ 0 [.int .i32 0] from rfl) (Reps.one (show Kd.M (Kd.int .i32) _ _ _ 192 [.int .i32 192] from rfl) (Reps.one (show Kd.M (Kd.int .i32) _ _ _ 224 [.int .i32 224] from rfl) (Reps.one (show Kd.M (Kd.int .i32) _ _ _ 240 [.int .i32 240] from rfl) (Reps.none _ _))))))); intro v126 w12 ho13 hb hg_ hnew_; clear hg_ hnew_; (first | rw [← Ny125.out] at ho13 | (simp only [Int.reduceToNat] at ho13; rw [← Ny125.out] at ho13)); have n0_ := Aside0.mk (Kd.R_lower ho13 (below_size (by repeat (first | (with_reducible first | exact HB.out | apply below_alloc | apply pw_below_drewN | apply below_drew1) | exact HB.out)))); have n1_ := Aside0.mk (below_step (by repeat (first | (with_reducible first | exact HB.out | apply below_alloc | apply pw_below_drewN | apply below_drew1) | exact HB.out)) hb); clear HB; have HO127 := n0_; have HB := n1_; clear n0_ n1_; clear hb ho13; obtain ⟨Ao14, co14, eo14⟩ := Kd.R_slice HO127.out; subst eo14; have p128 : 0 ≤ ((a0.size : Int) : Int) := of_decide_eq_true (by first | (with_reducible assumption) | assumption); have q128 : (a0.size : Int) < (y125.length : Int) := of_decide_eq_true (by first | (with_reducible assumption) | assumption); obtain ⟨ad128, e128, hx128_0⟩ := Kd.at_int (Kd.R_reads' HO127.out).2.2 (a0.size : Int) p128 q128; cases e128; (try simp only [Go.IntWalk.toNatUp] at hx128_0); replace p128 := eq_true p128; replace q128 := eq_true q128))
                  go_roundg k1
                  case measure => have := HK1.out; omega
                  case rel => exact ⟨(wrap32 ((wrap32 (bt a0 x4_1)) - (rd y125 (a0.size : Int)))), (wrap64 (x4_1 + 1)), (by first | rfl | (simp; done) | (simp [*]; done)), (by first | rfl | (simp; done) | (simp [*]; done)), H', ⟨by have := HK1.out; omega⟩, ⟨by repeat (first | (with_reducible first | exact HB.out | apply below_alloc | apply pw_below_drewN | apply below_drew1) | exact HB.out)⟩⟩
              · rw [if_neg c7] at H
                exact absurd H (by simp)
            · rw [if_neg c6] at H
              exact absurd H (by simp)
          · rw [if_neg c5] at H
            have c5b0 : (x4_1 == 0) = false := beq_eq_false_iff_ne.mpr c5
            have c5b1 : (x4_1 != 0) = true := bne_iff_ne.mpr c5
            by_cases c15 : (wrap32 (bt a0 x4_1)) < 128
            · rw [if_pos c15] at H
              have c15b0 : decide ((wrap32 (bt a0 x4_1)) < 128) = true := decide_eq_true c15
              clear c15
              obtain rfl := Option.some.inj H
              have p4 : 0 ≤ (x4_1 : Int) := of_decide_eq_true (by first | (with_reducible assumption) | assumption)
              have q4 : x4_1 < (a0.size : Int) := of_decide_eq_true (by first | (with_reducible assumption) | assumption)
              have hx4 := bt_at a0 x4_1
              replace p4 := eq_true p4
              replace q4 := eq_true q4
              go_wp2
              go_ret
              exact ⟨by first | rfl | (simp [errW_none, errW_some] <;> rfl) | (simp [*, errW_none, errW_some] <;> rfl), by repeat (first | (with_reducible first | exact HB.out | apply below_alloc | apply pw_below_drewN | apply below_drew1) | exact HB.out)⟩
            · rw [if_neg c15] at H
              have c15b0 : decide ((wrap32 (bt a0 x4_1)) < 128) = false := decide_eq_false c15
              clear c15
              by_cases c16 : (wrap32 (bt a0 x4_1)) > 191
              · rw [if_pos c16] at H
                have c16b0 : decide (191 < (wrap32 (bt a0 x4_1))) = true := decide_eq_true c16
                clear c16
                obtain rfl := Option.some.inj H
                have p4 : 0 ≤ (x4_1 : Int) := of_decide_eq_true (by first | (with_reducible assumption) | assumption)
                have q4 : x4_1 < (a0.size : Int) := of_decide_eq_true (by first | (with_reducible assumption) | assumption)
                have hx4 := bt_at a0 x4_1
                replace p4 := eq_true p4
                replace q4 := eq_true q4
                go_wp2
                go_ret
                exact ⟨by first | rfl | (simp [errW_none, errW_some] <;> rfl) | (simp [*, errW_none, errW_some] <;> rfl), by repeat (first | (with_reducible first | exact HB.out | apply below_alloc | apply pw_below_drewN | apply below_drew1) | exact HB.out)⟩
              · rw [if_neg c16] at H
                have c16b0 : decide (191 < (wrap32 (bt a0 x4_1))) = false := decide_eq_false c16
                clear c16
                have H' := Aside0.mk H
                clear H
                have p4 : 0 ≤ (x4_1 : Int) := of_decide_eq_true (by first | (with_reducible assumption) | assumption)
                have q4 : x4_1 < (a0.size : Int) := of_decide_eq_true (by first | (with_reducible assumption) | assumption)
                have hx4 := bt_at a0 x4_1
                replace p4 := eq_true p4
                replace q4 := eq_true q4
                go_wp2
                go_roundg k1
                case measure => have := HK1.out; omega
                case rel => exact ⟨(wrap32 ((wrap32 ((wrap32 (64 * x3_1)) + (wrap32 (bt a0 x4_1)))) - 128)), (wrap64 (x4_1 + 1)), (by first | rfl | (simp; done) | (simp [*]; done)), (by first | rfl | (simp; done) | (simp [*]; done)), H', ⟨by have := HK1.out; omega⟩, ⟨by repeat (first | (with_reducible first | exact HB.out | apply below_alloc | apply pw_below_drewN | apply below_drew1) | exact HB.out)⟩⟩
        · rw [if_neg c3] at H
          exact absurd H (by simp)
      · rw [if_neg c2] at H
        have c2b0 : decide (x4_1 < (a0.size : Int)) = false := decide_eq_false c2
        clear c2
        obtain rfl := Option.some.inj H
        go_wp2
        go_ret
        exact ⟨by first | rfl | (simp [errW_none, errW_some] <;> rfl) | (simp [*, errW_none, errW_some] <;> rfl), by repeat (first | (with_reducible first | exact HB.out | apply below_alloc | apply pw_below_drewN | apply below_drew1) | exact HB.out)⟩
end Go.Proofs.YtbnpcnpdeinacaaDoor.P
end
section
namespace Go.Proofs.YtbnpcnpdeinacaaDoor
open Go.RowKit Go.Lib Go.Proofs.YtbnpcnpdeinacaaDoorW.PrintWords Go.Proofs.YtbnpcnpdeinacaaDoorW.PrintLast
/-- The slice v of bytes xs lies at the head of a row of its own, in a block from base on, whose cells may be written. -/
def OwnM (w : World) (base : Nat) (e : TypeId) (v : Value) (xs : List Int) : Prop :=
  ∃ (g cap : Nat) (cur : Array Value) (fz : Nat × Nat), v = .slice (some ⟨g, 0, none⟩) xs.length cap ∧ base ≤ g ∧ w.heap[g]? = some (.cells cur e fz) ∧ (fz = (0, 0) ∨ cur.size ≤ fz.1) ∧ xs.length ≤ cap ∧ cap ≤ maxLen ∧ cur.size = cap ∧ ∀ j, j < xs.length → cur[j]? = some (.int .u8 (xs.getD j 0))
theorem OwnM.lt {w : World} {base : Nat} {e : TypeId} {v : Value} {xs : List Int} (h : OwnM w base e v xs) : ∀ k, v.ownBlock = some k → base ≤ k ∧ k < w.heap.size := by
  obtain ⟨g, cap, cur, fz, rfl, hb, hg, _⟩ := h
  intro k hk
  simp [Value.ownBlock] at hk
  subst hk
  exact ⟨hb, (Array.getElem?_eq_some_iff.1 hg).1⟩
theorem OwnM.kept {w w' : World} {base : Nat} {e : TypeId} {v : Value} {xs : List Int} (h : OwnM w base e v xs) {row : Option Nat} (hg : w.grownBy w' row) (hne : v.ownBlock ≠ row) : OwnM w' base e v xs := by
  obtain ⟨g, cap, cur, fz, rfl, hb, hgg, r⟩ := h
  refine ⟨g, cap, cur, fz, rfl, hb, ?_, r⟩
  rw [hg.block g (Array.getElem?_eq_some_iff.1 hgg).1 (by simpa [Value.ownBlock] using hne)]
  exact hgg
theorem OwnM.below {w w' : World} {base : Nat} {e : TypeId} {v : Value} {xs : List Int} (h : OwnM w base e v xs) (hb : Below w.heap.size w w') : OwnM w' base e v xs := by
  obtain ⟨g, cap, cur, fz, rfl, hbb, hgg, r⟩ := h
  exact ⟨g, cap, cur, fz, rfl, hbb, (hb.block g (Array.getElem?_eq_some_iff.1 hgg).1).trans hgg, r⟩
theorem OwnM.alloc {w : World} {base : Nat} {e : TypeId} {v : Value} {xs : List Int} (h : OwnM w base e v xs) (o : Obj) : OwnM (w.alloc o) base e v xs := h.below (Below.alloc (Below.refl _ _) (Nat.le_refl _) o)
theorem OwnM.slice {w : World} {base : Nat} {e : TypeId} {v : Value} {xs : List Int} (h : OwnM w base e v xs) : ∃ g cap, v = .slice (some ⟨g, 0, none⟩) xs.length cap := by
  obtain ⟨g, cap, cur, fz, rfl, _⟩ := h
  exact ⟨g, cap, rfl⟩
theorem OwnM.string {P : Program} {w : World} {base : Nat} {e' src dst e : TypeId} {v : Value} {xs : List Int} (hs : P.underlying src = some (.slice e)) (he : P.underlying e = some (.int .u8)) (hd : P.underlying dst = some .string)
    (h : OwnM w base e' v xs) : (convert src dst v).run P w = .ok (.string (strOfNums xs)) w := by
  obtain ⟨g, cap, cur, fz, rfl, hb, hg, _, _, _, hc, hx⟩ := h
  refine run_convert_bytes_arg w src e hs he g 0 xs.length cap xs rfl (fun i hi => ?_) dst hd
  rw [Nat.zero_add, cell_of_row w g i cur e' fz hg]
  exact hx i hi
theorem OwnM.of_bytes (w : World) (base : Nat) (e : TypeId) (s : ByteArray) (hb : base ≤ w.heap.size) (hs : s.size ≤ maxLen) : OwnM (Lib.bytesWorld w e s) base e (.slice (some ⟨w.heap.size, 0, none⟩) s.size (grownCap w s.size 0 e)) (bytesOf s) := by
  have hge := grownCap_ge w s.size 0 e
  refine ⟨w.heap.size, grownCap w s.size 0 e, Lib.bytesCells w e s, _, by rw [bytesOf_length], hb, Lib.bytesWorld_at_new w e s, .inr (Nat.le_refl _), by rw [bytesOf_length]; exact hge, grownCap_le_maxLen w s.size 0 e hs, ?_, ?_⟩
  · simp [Lib.bytesCells, Array.size_append]
    have : s.data.size = s.size := rfl
    omega
  · intro j hj
    rw [bytesOf_length] at hj
    have := Lib.bytesWorld_cell w e s j hj
    rw [cell_of_row _ _ j _ e _ (Lib.bytesWorld_at_new w e s)] at this
    rw [this]
    have h' : j < s.data.toList.length := by rw [data_length]; exact hj
    simp [bytesOf, List.getD_eq_getElem?_getD, List.getElem?_eq_getElem h']
theorem run_store_oneM (P : Program) (w : World) (g o : Nat) (t : TypeId) (v : Value) (cur : Array Value) (fz : Nat × Nat) (hg : w.heap[g]? = some (.cells cur t fz)) (hf : fz = (0, 0) ∨ cur.size ≤ fz.1) (ho : o < cur.size) (h1 : v.oneCell' = true) :
    (storeCells ⟨g, o, none⟩ [v] 0).run P w = .ok () (w.setRow g (cur.setIfInBounds o v)) := by
  have hcell : w.cell? ⟨g, o, none⟩ = some cur[o] := by simp [World.cell?, hg, ho]
  have hfro : w.frozen? ⟨g, o, none⟩ = false := by
    obtain ⟨lo, hi⟩ := fz
    simp only [World.frozen?, hg]
    rcases hf with h | h
    · simp only [Prod.mk.injEq] at h; obtain ⟨rfl, rfl⟩ := h; simp
    · simp only at h; simp; omega
  have hst : (store ((⟨g, o, none⟩ : Addr).add 0) v).run P w = .ok () (w.setRow g (cur.setIfInBounds o v)) := by
    have hadd : (⟨g, o, none⟩ : Addr).add 0 = ⟨g, o, none⟩ := by unfold Addr.add; split <;> simp_all
    rw [hadd, run_store P w _ v _ h1, hcell]
    simp [hfro, setCell_eq_setRow w g o cur t fz v hg]
  simp only [storeCells, Sem.run_bind, hst, Result.andThen_ok]
  rfl
theorem run_appendM {P : Program} (w : World) (base : Nat) (t ty e : TypeId) (i : TypeInfo) (ht : P.underlying t = some (.slice e)) (hi : P.info? e = some i) (hz : i.zero = some (.int .u8 0)) (hsize : i.size = 1) (hby : i.bytes = 1)
    (v : Value) (xs : List Int) (hown : OwnM w base e v xs) (a : Addr) (c : Nat) (x : Int) (hx : w.cell? a = some (.int .u8 x)) (hlen : xs.length + 1 ≤ 140737488355328) (hbase : base ≤ w.heap.size) :
    ∃ v' w', (Builtin.append_ #[t, t] ty #[v, .slice (some a) 1 c]).run P w = .ok v' w' ∧ OwnM w' base e v' (xs ++ [x]) ∧ w.grownBy w' v.ownBlock ∧ (v'.ownBlock = v.ownBlock ∨ ∃ b, v'.ownBlock = some b ∧ w.heap.size ≤ b) := by
  obtain ⟨g, cap, cur, fz, rfl, hb, hg, hf, hnc, hcm, hcs, hxs⟩ := hown
  have ha0 : a.add 0 = a := by unfold Addr.add; cases a with | mk b o s => cases s <;> simp
  have hnews : ∀ j u, ([.int .u8 x] : List Value)[j]? = some u → w.cell? (a.add j) = some u := by
    intro j u hu
    match j, hu with
    | 0, hu => simp at hu; subst hu; rw [ha0]; exact hx
    | j + 1, hu => simp at hu
  have hcat : ∀ (cur' : Array Value), (∀ j, j < xs.length → cur'[j]? = some (.int .u8 (xs.getD j 0))) → cur'[xs.length]? = some (.int .u8 x) → ∀ j, j < (xs ++ [x]).length → cur'[j]? = some (.int .u8 ((xs ++ [x]).getD j 0)) := by
    intro cur' h1 h2 j hj
    simp only [List.length_append, List.length_cons, List.length_nil] at hj
    by_cases hjl : j < xs.length
    · rw [h1 j hjl]; simp [List.getD_eq_getElem?_getD, List.getElem?_append, hjl]
    · have : j = xs.length := by omega
      subst this
      rw [h2]; simp [List.getD_eq_getElem?_getD]
  by_cases hroom : xs.length + 1 ≤ cap
  · have hfc := run_firstCells_some (P := P) w 1 1 a 1 c [.int .u8 x] rfl hnews
    have hst := run_store_oneM P w g xs.length e (.int .u8 x) cur fz hg hf (by omega) rfl
    refine ⟨.slice (some ⟨g, 0, none⟩) (xs.length + 1) cap, w.setRow g (cur.setIfInBounds xs.length (.int .u8 x)), ?_, ⟨g, cap, _, fz, by simp, hb, setRow_heap w g cur _ e fz hg, by simpa using hf, by simpa using hroom, hcm, by simpa using hcs, ?_⟩, ⟨rfl, rfl, rfl, by simp, fun k _ hk => setRow_other w g k _ (fun e => hk (by simp [Value.ownBlock, e]))⟩, .inl rfl⟩
    · simp [Builtin.append_, run_underlying ht, sizeOf, typeInfo, hi, hsize, Builtin.lenOf, hroom, hfc, Addr.add_lit, hst]
    · refine hcat _ (fun j hj => ?_) ?_
      · rw [Array.getElem?_setIfInBounds, if_neg (by omega)]; exact hxs j hj
      · rw [Array.getElem?_setIfInBounds, if_pos rfl, if_pos (by omega)]
  · have holds : ∀ j u, (nums .u8 xs)[j]? = some u → w.cell? ((⟨g, 0, none⟩ : Addr).add j) = some u := by
      intro j u hu
      rw [add_plain, cell_of_row w g j cur e fz hg]
      have hj : j < xs.length := by have := (List.getElem?_eq_some_iff.1 hu).1; rwa [nums_length] at this
      rw [hxs j hj, ← hu]
      simp [nums, List.getElem?_eq_getElem hj, List.getD_eq_getElem?_getD]
    have hr := run_append_grow (P := P) w t ty e i (.int .u8 0) ht hi hz ⟨g, 0, none⟩ xs.length cap (nums .u8 xs) (by rw [nums_length, hsize, Nat.mul_one]) holds a 1 c [.int .u8 x] (by rw [hsize]; rfl) hnews (by omega) (by omega) (by rw [hby]; exact growslice_fits (by omega) (by omega))
    have hge := grownCap_ge w (xs.length + 1) cap e
    have hcm2 : grownCap w (xs.length + 1) cap e ≤ maxLen := grownCap_le_maxLen w (xs.length + 1) cap e (by unfold maxLen; omega)
    refine ⟨_, _, hr, ⟨w.heap.size, _, _, (0, 0), by simp, hbase, heap_alloc_new w.drew _, .inl rfl, by simpa using hge, hcm2, ?_, ?_⟩, ⟨rfl, rfl, rfl, by simp, fun k hk _ => Below.heap_alloc w.drew _ k hk⟩, .inr ⟨_, rfl, Nat.le_refl _⟩⟩
    · have hz1 : (Value.int IntKind.u8 0).cells.size = 1 := rfl
      simp only [Array.size_append, List.size_toArray, size_zeroCells, hz1, nums_length, List.length_cons, List.length_nil]
      omega
    · refine hcat _ (fun j hj => ?_) ?_
      · have h1 : j < (nums .u8 xs).toArray.size := by simpa [nums_length] using hj
        rw [Array.getElem?_append_left (by rw [Array.size_append]; omega), Array.getElem?_append_left h1]
        simp [nums, List.getD_eq_getElem?_getD, List.getElem?_eq_getElem hj]
      · have h1 : (nums .u8 xs).toArray.size = xs.length := by simp [nums_length]
        rw [Array.getElem?_append_left (by rw [Array.size_append, h1]; simp), Array.getElem?_append_right (by rw [h1]; exact Nat.le_refl _), h1]
        simp
theorem wpList_appendM {P : Program} (w : World) {ops : Array Oper} {rest : List Oper} {o : Oper} {a : Act} {Q : Exit → Act → World → Prop} (hgd : o.guard = none) (s y : Operand) (t : TypeId)
    (ho : o.op = .call { callee := .builtin .append, args := #[s, y], argTypes := #[t, t] })
    (base : Nat) (e : TypeId) (i : TypeInfo) (ht : P.underlying t = some (.slice e)) (hi : P.info? e = some i) (hz : i.zero = some (.int .u8 0)) (hsize : i.size = 1) (hby : i.bytes = 1)
    (v : Value) (xs : List Int) (hs : a.eval s = v) (hown : OwnM w base e v xs) (ad : Addr) (c : Nat) (x : Int) (hy : a.eval y = .slice (some ad) 1 c) (hx : w.cell? ad = some (.int .u8 x)) (hlen : xs.length + 1 ≤ 140737488355328) (hbase : base ≤ w.heap.size)
    (h : ∀ v' w', OwnM w' base e v' (xs ++ [x]) → w.grownBy w' v.ownBlock → (v'.ownBlock = v.ownBlock ∨ ∃ b, v'.ownBlock = some b ∧ w.heap.size ≤ b) → wpList P ops Q rest (a.put o.dst v') w') : wpList P ops Q (o :: rest) a w := by
  refine wpList_plain hgd fun K hK => ?_
  obtain ⟨v', w', hr, h2, h3, h4⟩ := run_appendM (P := P) w base t o.type e i ht hi hz hsize hby v xs hown ad c x hx hlen hbase
  unfold Oper.wp execOp
  simp only [ho, resolve, invoke, builtin, Sem.run_bind, Sem.run_pure, Result.andThen_ok, List.map_toArray, List.map_cons, List.map_nil, hs, hy, hr]
  exact hK _ _ (h v' w' h2 h3 h4)
end Go.Proofs.YtbnpcnpdeinacaaDoor
end
