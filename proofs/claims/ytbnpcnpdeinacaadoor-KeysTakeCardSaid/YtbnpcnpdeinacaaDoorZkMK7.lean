-- Copies of the texts YtbnpcnpdeinacaaDoorMK4, YtbnpcnpdeinacaaDoorMK7 with what this claim does not reach left out (prune.py, a program of this project).
import Derived.Test.YtbnpcnpdeinacaaDoorZkGBytes
import Derived.Test.YtbnpcnpdeinacaaDoorZkPx12
import Derived.Test.YtbnpcnpdeinacaaDoorZkMK6
section
namespace Go.Proofs.YtbnpcnpdeinacaaDoor
open Go.RowKit Go.Lib Go.Proofs.YtbnpcnpdeinacaaDoorW.PrintWords Go.Proofs.YtbnpcnpdeinacaaDoorW.PrintLast Go.Proofs.YtbnpcnpdeinacaaDoorW.PrintMore Go.Proofs.YtbnpcnpdeinacaaDoor.P
set_option linter.unusedVariables false
theorem same_loop (l : List ByteArray) (hl : l.length ≤ 1000000) : ∀ (d i k : Nat), i + d = l.length → d < k → backseatref03_Same.l0 k l l (l.length : Int) (i : Int) = some true := by
  intro d
  induction d with
  | zero =>
    intro i k hi hk
    obtain ⟨k, rfl⟩ : ∃ m, k = m + 1 := ⟨k - 1, by omega⟩
    simp only [backseatref03_Same.l0]
    rw [if_neg (by omega)]
  | succ d ih =>
    intro i k hi hk
    obtain ⟨k, rfl⟩ : ∃ m, k = m + 1 := ⟨k - 1, by omega⟩
    simp only [backseatref03_Same.l0]
    rw [if_pos (by omega), if_pos (by omega), if_pos (by omega), if_pos (by omega), if_pos trivial]
    rw [show wrap64 ((i : Int) + 1) = ((i + 1 : Nat) : Int) from by unfold wrap64; omega]
    exact ih (i + 1) k (by omega) (by omega)
theorem same_refl (l : List ByteArray) (hl : l.length ≤ 1000000) (k : Nat) (hk : l.length < k) : backseatref03_Same.f k l l = some true := by
  unfold backseatref03_Same.f
  rw [if_pos rfl]
  exact same_loop l hl l.length 0 k (by omega) hk
theorem decode_go (s : ByteArray) (f : Bool) (h : s.size ≤ 1000000) : keys_Decode.f s f = some ((decL s.data.toList.length s.data.toList f).1.map ba, ba (decL s.data.toList.length s.data.toList f).2) := by
  unfold keys_Decode.f
  rw [if_pos h, size_len]
theorem alive_dec : decL 4 [27, 91, 65, 120] false = ([[85, 112], [120]], []) := by decide +kernel
theorem alive_go : backseatlaw03_alive.f = some true := by
  unfold backseatlaw03_alive.f
  rw [decode_go _ _ (by decide)]
  rw [show ((⟨#[27, 91, 65, 120]⟩ : ByteArray)).data.toList = [27, 91, 65, 120] from rfl, show ([27, 91, 65, 120] : List UInt8).length = 4 from rfl, alive_dec, Option.bind_some]
  simp only [Lib.toList_data]
  rfl
theorem cat_data (a b : ByteArray) : (a ++ b).data.toList = a.data.toList ++ b.data.toList := by rw [ByteArray.data_append, Array.toList_append]
end Go.Proofs.YtbnpcnpdeinacaaDoor
end
section
namespace Go.Proofs.YtbnpcnpdeinacaaDoor
open Go.RowKit Go.Lib Go.Proofs.YtbnpcnpdeinacaaDoorW.PrintWords Go.Proofs.YtbnpcnpdeinacaaDoorW.PrintLast Go.Proofs.YtbnpcnpdeinacaaDoorW.PrintMore Go.Proofs.YtbnpcnpdeinacaaDoor.P
set_option linter.unusedVariables false
abbrev TK := ByteArray × Int × Bool
def namedT (s : List UInt8) (final : Bool) : TK := match hitL s with
  | some p => (ba p.1, (p.2.length : Int), true)
  | none => if beginsL s = true then (ba [], 0, !final) else (ba [], 0, false)
theorem rd_RT (i : Nat) (hi : i < 46) : rdOf ByteArray.empty (RT.map fun p => ba p.1) (i : Int) = ba (RT.getD i ([], [])).1 := by
  have h46 : RT.length = 46 := rfl
  unfold rdOf
  rw [Int.toNat_natCast, List.getD_eq_getElem?_getD, List.getElem?_map, List.getElem?_eq_getElem (by omega), List.getD_eq_getElem?_getD, List.getElem?_eq_getElem (by omega)]
  rfl
theorem mem_RT (i : Nat) (hi : i < 46) : RT.getD i ([], []) ∈ RT := by
  have h46 : RT.length = 46 := rfl
  rw [List.getD_eq_getElem?_getD, List.getElem?_eq_getElem (by omega)]; exact List.getElem_mem _
theorem at_RT {p : List UInt8 × List UInt8} (hp : p ∈ NL) : ∃ j, j < 46 ∧ RT.getD j ([], []) = p := by
  obtain ⟨j, hj, he⟩ := List.getElem_of_mem (RT_NL.2 p hp)
  have h46 : RT.length = 46 := rfl
  exact ⟨j, by omega, by rw [List.getD_eq_getElem?_getD, List.getElem?_eq_getElem hj]; exact he⟩
theorem rnamed_loop (s : ByteArray) (final : Bool) : ∀ (d i k : Nat) (acc : Bool), i + d = 46 → d + 70 < k → (∀ j, j < i → (RT.getD j ([], [])).2.isPrefixOf s.data.toList = false) → (acc = true → beginsL s.data.toList = true) → (∀ j, j < i → s.data.toList.isPrefixOf (RT.getD j ([], [])).2 = true → acc = true) →
    backseatref03_named.l0 k s final acc (RT.map fun p => ba p.1) 46 (i : Int) = some (namedT s.data.toList final) := by
  intro d
  induction d with
  | zero =>
    intro i k acc hi hk h1 h2 h3
    obtain ⟨k, rfl⟩ : ∃ m, k = m + 1 := ⟨k - 1, by omega⟩
    simp only [backseatref03_named.l0]
    have hh : hitL s.data.toList = none := hit_none fun p hp => by
      obtain ⟨j, hj, rfl⟩ := at_RT hp
      exact h1 j (by omega)
    have hb : beginsL s.data.toList = acc := by
      cases hacc : acc with
      | true => exact h2 hacc
      | false =>
        cases hB : beginsL s.data.toList with
        | false => rfl
        | true =>
          obtain ⟨p, hp, hq⟩ := List.any_eq_true.1 hB
          obtain ⟨j, hj, rfl⟩ := at_RT hp
          rw [h3 j (by omega) hq] at hacc
          cases hacc
    unfold namedT
    rw [hh, hb, if_neg (by omega)]
    cases acc <;> rfl
  | succ d ih =>
    intro i k acc hi hk h1 h2 h3
    obtain ⟨k, rfl⟩ : ∃ m, k = m + 1 := ⟨k - 1, by omega⟩
    have hlen : ((RT.map fun p => ba p.1).length : Int) = 46 := rfl
    have hm := RT_NL.1 _ (mem_RT i (by omega))
    simp only [backseatref03_named.l0]
    rw [if_pos (by omega), if_pos (by omega), if_pos (by rw [hlen]; omega), rd_RT i (by omega), rNamed_go _ k (by omega), ba_data, valL_of hm, Option.bind_some, rprefix_go, ba_data, Option.bind_some]
    by_cases hp : Lib.hasPrefix s.data.toList (RT.getD i ([], [])).2 = true
    · have hh := hit_eq hm hp
      unfold namedT
      rw [if_pos hp, hh]; rfl
    · have hpf : (RT.getD i ([], [])).2.isPrefixOf s.data.toList = false := Bool.eq_false_iff.2 hp
      have h1' : ∀ j, j < i + 1 → (RT.getD j ([], [])).2.isPrefixOf s.data.toList = false := fun j hj => by
        by_cases hji : j = i
        · rw [hji]; exact hpf
        · exact h1 j (by omega)
      rw [if_neg hp, show wrap64 ((i : Int) + 1) = ((i + 1 : Nat) : Int) from by unfold wrap64; omega]
      cases acc with
      | true =>
        rw [if_pos rfl]
        exact ih (i + 1) k true (by omega) (by omega) h1' h2 (fun _ _ _ => rfl)
      | false =>
        rw [if_neg (by decide), rprefix_go, ba_data, Option.bind_some]
        refine ih (i + 1) k _ (by omega) (by omega) h1' (fun h => List.any_eq_true.2 ⟨_, hm, h⟩) (fun j hj h => ?_)
        by_cases hji : j = i
        · rw [hji] at h; exact h
        · have := h3 j (by omega) h
          cases this
theorem rnamed_go (s : ByteArray) (final : Bool) (k : Nat) (hk : 200 ≤ k) : backseatref03_named.f k s final = some (namedT s.data.toList final) := by
  unfold backseatref03_named.f
  rw [names_go k (by omega), Option.bind_some]
  exact rnamed_loop s final 46 0 k false (by omega) (by omega) (fun j hj => absurd hj (by omega)) (fun h => by cases h) (fun j hj => absurd hj (by omega))
def seqT (c : Int) (final : Bool) : TK := if 0 < c then (ba [63], c, true) else if c < 0 then (ba [], 0, !final) else (ba [], 0, false)
theorem seq_j1 (s : ByteArray) (final : Bool) (k i : Nat) (hi : i ≤ 10) (h : i = s.data.toList.length ∨ (i < s.data.toList.length ∧ (isPar (g s.data.toList i) = true → i = 10))) : backseatref03_sequence.j1 (k + 1) s final (i : Int) = some (seqT (ctlL (11 - i) s.data.toList i) final) := by
  obtain ⟨d, hd⟩ : ∃ d, 11 - i = d + 1 := ⟨10 - i, by omega⟩
  rw [hd]
  simp only [backseatref03_sequence.j1]
  unfold ctlL
  rcases h with h | ⟨h, hp⟩
  · rw [if_pos (by rw [size_len]; omega), if_neg (by omega)]; rfl
  · rw [if_neg (by rw [size_len]; omega), if_pos (by omega), if_pos (by rw [size_len]; omega), if_pos h, bt_gK s i h]
    have hw : wrap64 ((i : Int) + 1) = (i : Int) + 1 := by unfold wrap64; omega
    rw [hw]
    by_cases c : isPar (g s.data.toList i) = true
    · rw [if_pos c, if_pos (hp c)]
      rw [isPar_iff] at c
      by_cases c1 : (g s.data.toList i : Int) ≥ 48
      · rw [if_pos c1]
        by_cases c2 : (g s.data.toList i : Int) ≤ 57
        · rw [if_pos c2]; rfl
        · rw [if_neg c2, if_pos (by omega)]; rfl
      · omega
    · rw [if_neg c]
      have hs : seqT ((i : Int) + 1) final = (ba [63], (i : Int) + 1, true) := by unfold seqT; rw [if_pos (by omega)]
      rw [hs]
      rw [isPar_iff] at c
      by_cases c1 : (g s.data.toList i : Int) ≥ 48
      · rw [if_pos c1, if_neg (by omega), if_neg (by omega)]; rfl
      · rw [if_neg c1, if_neg (by omega)]; rfl
theorem seq_step (k : Nat) (x0 : ByteArray) (x1 : Bool) (x5 : Int) : backseatref03_sequence.l0 (k + 1) x0 x1 x5 = if x5 < (x0.size : Int) then (if x5 < 10 then (if 0 ≤ x5 then (if (bt x0 x5) ≥ 48 then (if (bt x0 x5) ≤ 57 then (backseatref03_sequence.l0 k x0 x1 (wrap64 (x5 + 1))) else (if (bt x0 x5) = 59 then (backseatref03_sequence.l0 k x0 x1 (wrap64 (x5 + 1))) else (backseatref03_sequence.j1 k x0 x1 x5))) else (if (bt x0 x5) = 59 then (backseatref03_sequence.l0 k x0 x1 (wrap64 (x5 + 1))) else (backseatref03_sequence.j1 k x0 x1 x5))) else (none)) else (backseatref03_sequence.j1 k x0 x1 x5)) else (backseatref03_sequence.j1 k x0 x1 x5) := by simp only [backseatref03_sequence.l0]
theorem seq_loop (s : ByteArray) (final : Bool) : ∀ (d i k : Nat), i + d = 10 → 2 ≤ i → i ≤ s.data.toList.length → d + 2 ≤ k → backseatref03_sequence.l0 k s final (i : Int) = some (seqT (ctlL (11 - i) s.data.toList i) final) := by
  intro d
  induction d with
  | zero =>
    intro i k hi h2 hl hk
    obtain ⟨k, rfl⟩ : ∃ m, k = m + 1 + 1 := ⟨k - 2, by omega⟩
    obtain rfl : i = 10 := by omega
    simp only [backseatref03_sequence.l0]
    by_cases h : 10 < s.data.toList.length
    · rw [if_pos (by rw [size_len]; omega), if_neg (by omega)]
      exact seq_j1 s final k 10 (by omega) (.inr ⟨h, fun _ => rfl⟩)
    · rw [if_neg (by rw [size_len]; omega)]
      exact seq_j1 s final k 10 (by omega) (.inl (by omega))
  | succ d ih =>
    intro i k hi h2 hl hk
    obtain ⟨k, rfl⟩ : ∃ m, k = m + 1 + 1 := ⟨k - 2, by omega⟩
    have hw : wrap64 ((i : Int) + 1) = ((i + 1 : Nat) : Int) := by unfold wrap64; omega
    by_cases h : i < s.data.toList.length
    · by_cases c : isPar (g s.data.toList i) = true
      · have hc : ctlL (11 - i) s.data.toList i = ctlL (11 - (i + 1)) s.data.toList (i + 1) := by
          rw [show 11 - i = (11 - (i + 1)) + 1 by omega]
          show (if _ then _ else _) = _
          rw [if_pos h, if_pos c, if_neg (by omega)]
        have hih := ih (i + 1) (k + 1) (by omega) (by omega) (by omega) (by omega)
        rw [hc, ← hih]
        rw [isPar_iff] at c
        rw [seq_step (k + 1) s final (i : Int)]
        rw [if_pos (by rw [size_len]; omega), if_pos (by omega), if_pos (by omega), bt_gK s i h, hw]
        by_cases c1 : (g s.data.toList i : Int) ≥ 48
        · rw [if_pos c1]
          by_cases c2 : (g s.data.toList i : Int) ≤ 57
          · rw [if_pos c2]
          · rw [if_neg c2, if_pos (by omega)]
        · omega
      · have hj := seq_j1 s final k i (by omega) (.inr ⟨h, fun hh => absurd hh c⟩)
        rw [← hj]
        rw [isPar_iff] at c
        rw [seq_step (k + 1) s final (i : Int)]
        rw [if_pos (by rw [size_len]; omega), if_pos (by omega), if_pos (by omega), bt_gK s i h]
        by_cases c1 : (g s.data.toList i : Int) ≥ 48
        · rw [if_pos c1, if_neg (by omega), if_neg (by omega)]
        · rw [if_neg c1, if_neg (by omega)]
    · have hj := seq_j1 s final k i (by omega) (.inl (by omega))
      rw [← hj]
      rw [seq_step (k + 1) s final (i : Int)]
      rw [if_neg (by rw [size_len]; omega)]
theorem st_Take_j0 (k : Nat) (x0 : ByteArray) (x1 : Bool) (x18 : Bool) (x203000 : ByteArray) (x203001 : Int) (x203002 : Bool) : backseatref03_Take.j0 (k + 1) x0 x1 x18 x203000 x203001 x203002 = if x18 = true then ((backseatref03_sequence.f k x0 x1).bind fun bt203 => (backseatref03_Take.j1 k x0 x1 bt203.1 bt203.2.1 bt203.2.2)) else (backseatref03_Take.j1 k x0 x1 x203000 x203001 x203002) := by simp only [backseatref03_Take.j0]
theorem st_Take_j1 (k : Nat) (x0 : ByteArray) (x1 : Bool) (x203000 : ByteArray) (x203001 : Int) (x203002 : Bool) : backseatref03_Take.j1 (k + 1) x0 x1 x203000 x203001 x203002 = if x203002 = true then (backseatref03_Take.j2 k x0 x1 false x203000 x203001 x203002) else (if 0 < (x0.size : Int) then (backseatref03_Take.j2 k x0 x1 ((bt x0 0) == 27) x203000 x203001 x203002) else (none)) := by simp only [backseatref03_Take.j1]
theorem st_Take_j2 (k : Nat) (x0 : ByteArray) (x1 : Bool) (x29 : Bool) (x203000 : ByteArray) (x203001 : Int) (x203002 : Bool) : backseatref03_Take.j2 (k + 1) x0 x1 x29 x203000 x203001 x203002 = if x29 = true then ((backseatref03_meta.f k x0 x1).bind fun bt206 => (backseatref03_Take.j3 k x0 x1 bt206.1 bt206.2.1 bt206.2.2)) else (backseatref03_Take.j3 k x0 x1 x203000 x203001 x203002) := by simp only [backseatref03_Take.j2]
theorem st_Take_j3 (k : Nat) (x0 : ByteArray) (x1 : Bool) (x203000 : ByteArray) (x203001 : Int) (x203002 : Bool) : backseatref03_Take.j3 (k + 1) x0 x1 x203000 x203001 x203002 = if x203002 = true then (some (x203000, x203001)) else (if 0 < (x0.size : Int) then (if (bt x0 0) = 27 then (some ((⟨#[69, 115, 99]⟩ : ByteArray), 1)) else ((backseatref03_Letter.f k x0).bind fun t209 => (if t209.toList = ([] : List UInt8) then ((backseatref01_First.f k x0).bind fun bt210 => (if bt210.2.2 = 2 then (backseatref03_Take.j4 k (!x1) bt210.1 bt210.2.1 bt210.2.2) else (backseatref03_Take.j4 k false bt210.1 bt210.2.1 bt210.2.2))) else (some (t209, (t209.size : Int)))))) else (none)) := by simp only [backseatref03_Take.j3]
theorem st_Take_j4 (k : Nat) (x57 : Bool) (x214000 : Int) (x214001 : Int) (x214002 : Int) : backseatref03_Take.j4 (k + 1) x57 x214000 x214001 x214002 = if x57 = true then (some ((⟨#[]⟩ : ByteArray), 0)) else (if x214002 = 2 then (some ((⟨#[63]⟩ : ByteArray), 1)) else (some ((⟨#[63]⟩ : ByteArray), x214001))) := by simp only [backseatref03_Take.j4]
theorem st_Decode_l0 (k : Nat) (x1 : Bool) (x216000 : List ByteArray) (x216001 : ByteArray) : backseatref03_Decode.l0 (k + 1) x1 x216000 x216001 = if (x216001.size : Int) > 0 then ((backseatref03_Take.f k x216001 x1).bind fun bt216 => (if bt216.2 = 0 then (some (x216000, x216001)) else (if x216000.length < 8796093022208 then (if 0 ≤ bt216.2 then (if bt216.2 ≤ (x216001.size : Int) then (backseatref03_Decode.l0 k x1 (x216000 ++ [bt216.1]) (x216001.extract (bt216.2 : Int).toNat x216001.size)) else (none)) else (none)) else (none)))) else (some (x216000, x216001)) := by simp only [backseatref03_Decode.l0]
theorem st_Bytes_j0 (k : Nat) (x0 : ByteArray) (x18 : Bool) : backseatref03_Bytes.j0 (k + 1) x0 x18 = if x18 = true then (some x0) else ((backseatref03_prefix.f x0 (⟨#[77, 45]⟩ : ByteArray)).bind fun t225 => (if t225 = true then (if (x0.size : Int) > 2 then (if 2 ≤ (x0.size : Int) then ((backseatref03_Letter.f k (x0.extract 2 x0.size)).bind fun t226 => (if t226.toList = (x0.extract 2 x0.size).toList then (if x0.toList = ([77, 45, 91] : List UInt8) then (some (⟨#[]⟩ : ByteArray)) else (if x0.toList = ([77, 45, 79] : List UInt8) then (some (⟨#[]⟩ : ByteArray)) else (if 1 + (x0.extract 2 x0.size).size ≤ 9223372036854775807 then (some ((⟨#[27]⟩ : ByteArray) ++ (x0.extract 2 x0.size))) else (none)))) else (some (⟨#[]⟩ : ByteArray)))) else (none)) else (some (⟨#[]⟩ : ByteArray))) else (some (⟨#[]⟩ : ByteArray)))) := by simp only [backseatref03_Bytes.j0]
theorem rsequence_go (s : ByteArray) (final : Bool) (k : Nat) (hk : 20 ≤ k) : backseatref03_sequence.f k s final = some (if Lib.hasPrefix s.data.toList [27, 91] = true then seqT (controlL s.data.toList) final else (ba [], 0, false)) := by
  unfold backseatref03_sequence.f
  rw [rprefix_go, Option.bind_some]
  show (if Lib.hasPrefix s.data.toList [27, 91] = true then _ else _) = _
  by_cases hp : Lib.hasPrefix s.data.toList [27, 91] = true
  · have h2 : 2 ≤ s.data.toList.length := (List.isPrefixOf_iff_prefix.1 hp).length_le
    rw [if_pos hp, if_pos hp]
    exact seq_loop s final 8 2 k (by omega) (by omega) h2 (by omega)
  · rw [if_neg hp, if_neg hp]; rfl
def metaT (s : List UInt8) (final : Bool) : TK :=
  if letterL (s.drop 1) ≠ [] ∧ letterL (s.drop 1) ≠ [91] ∧ letterL (s.drop 1) ≠ [79] then (ba ([77, 45] ++ letterL (s.drop 1)), ((1 + (letterL (s.drop 1)).length : Nat) : Int), true)
  else if shortL (s.drop 1) = true then (ba [], 0, !final) else (ba [], 0, false)
theorem rmeta_go (s : ByteArray) (final : Bool) (k : Nat) (hk : 30 ≤ k) (h1 : 1 ≤ s.size) (h2 : s.size ≤ 1000000) : backseatref03_meta.f k s final = some (metaT s.data.toList final) := by
  unfold backseatref03_meta.f
  rw [if_pos (by omega), rletter_go _ k (by omega), Option.bind_some, rshort_go _ k (by omega), Lib.toList_data, ba_data, toList_drop, Option.bind_some]
  have hle := letterL_len (s.data.toList.drop 1)
  rw [List.length_drop, ← size_len] at hle
  have hend : (if shortL (s.data.toList.drop 1) = true then some ((⟨#[]⟩ : ByteArray), (0 : Int), !final) else some ((⟨#[]⟩ : ByteArray), 0, false)) = some (if shortL (s.data.toList.drop 1) = true then ((ba [], 0, !final) : TK) else (ba [], 0, false)) := by
    cases shortL (s.data.toList.drop 1) <;> rfl
  by_cases c1 : letterL (s.data.toList.drop 1) = []
  · have hb : metaT s.data.toList final = _ := if_neg (show ¬ (letterL (s.data.toList.drop 1) ≠ [] ∧ letterL (s.data.toList.drop 1) ≠ [91] ∧ letterL (s.data.toList.drop 1) ≠ [79]) from fun h => h.1 c1)
    rw [if_pos c1, hb]; exact hend
  · rw [if_neg c1]
    by_cases c2 : letterL (s.data.toList.drop 1) = [91]
    · have hb : metaT s.data.toList final = _ := if_neg (show ¬ (letterL (s.data.toList.drop 1) ≠ [] ∧ letterL (s.data.toList.drop 1) ≠ [91] ∧ letterL (s.data.toList.drop 1) ≠ [79]) from fun h => h.2.1 c2)
      rw [if_pos c2, hb]; exact hend
    · rw [if_neg c2]
      by_cases c3 : letterL (s.data.toList.drop 1) = [79]
      · have hb : metaT s.data.toList final = _ := if_neg (show ¬ (letterL (s.data.toList.drop 1) ≠ [] ∧ letterL (s.data.toList.drop 1) ≠ [91] ∧ letterL (s.data.toList.drop 1) ≠ [79]) from fun h => h.2.2 c3)
        rw [if_pos c3, hb]; exact hend
      · have hb : metaT s.data.toList final = _ := if_pos ⟨c1, c2, c3⟩
        rw [if_neg c3, ba_size, if_pos (by omega), hb]
        congr 1
        refine Prod.ext ?_ (Prod.ext ?_ rfl)
        · exact ba_ext _ _ (by rw [ByteArray.data_append, Array.toList_append]; rfl)
        · show wrap64 (1 + ((letterL (s.data.toList.drop 1)).length : Int)) = ((1 + (letterL (s.data.toList.drop 1)).length : Nat) : Int)
          unfold wrap64
          omega
theorem bt0 (s : ByteArray) (h : 1 ≤ s.size) : (bt s 0 == 27) = decide (s.data.toList.take 1 = [27]) := by
  have hb := bt_gK s 0 (by rw [← size_len]; omega)
  rw [show ((0 : Nat) : Int) = 0 from rfl] at hb
  rw [hb]
  rw [size_len] at h
  cases hl : s.data.toList with
  | nil => rw [hl] at h; simp at h
  | cons a u =>
    show (((a.toNat : Nat) : Int) == 27) = decide ([a] = [27])
    rw [Bool.eq_iff_iff, beq_iff_eq, decide_eq_true_iff]
    constructor
    · intro h27
      have : a = 27 := UInt8.toNat_inj.1 (show a.toNat = 27 by omega)
      rw [this]
    · intro h27
      obtain rfl : a = 27 := by simpa using h27
      rfl
set_option maxHeartbeats 4000000 in
theorem rtake_go (s : ByteArray) (final : Bool) (k : Nat) (hk : 300 ≤ k) (h1 : 1 ≤ s.size) (h2 : s.size ≤ 1000000) : backseatref03_Take.f k s final = some (pairF (takeL s.data.toList final)) := by
  obtain ⟨k, rfl⟩ : ∃ m, k = m + 1 + 1 + 1 + 1 + 1 := ⟨k - 5, by omega⟩
  have hbt := bt0 s h1
  have hbt2 : (bt s 0 = 27) ↔ s.data.toList.take 1 = [27] := by
    rw [← beq_iff_eq (a := bt s 0), hbt, decide_eq_true_iff]
  unfold backseatref03_Take.f
  rw [rnamed_go s final _ (by omega), Option.bind_some]
  cases hh : hitL s.data.toList with
  | some p =>
    have e : namedT s.data.toList final = (ba p.1, (p.2.length : Int), true) := by unfold namedT; rw [hh]
    rw [e, if_pos rfl, st_Take_j0, if_neg (by decide), st_Take_j1, if_pos rfl, st_Take_j2, if_neg (by decide), st_Take_j3, if_pos rfl, takeL_some _ _ hh]
    rfl
  | none =>
    rw [takeL_none _ _ hh]
    by_cases c0 : beginsL s.data.toList = true ∧ final = false
    · have e : namedT s.data.toList final = (ba [], 0, true) := by unfold namedT; rw [hh, if_pos c0.1, c0.2]; rfl
      rw [e, if_pos rfl, st_Take_j0, if_neg (by decide), st_Take_j1, if_pos rfl, st_Take_j2, if_neg (by decide), st_Take_j3, if_pos rfl, if_pos c0]
      rfl
    · have e : namedT s.data.toList final = (ba [], 0, false) := by
        unfold namedT
        rw [hh]
        cases hb : beginsL s.data.toList with
        | false => rfl
        | true =>
          cases final with
          | true => rfl
          | false => exact absurd ⟨hb, rfl⟩ c0
      rw [e, if_neg (show ¬ ((ba [], (0 : Int), false).2.2 = true) by decide), if_pos (by omega), hbt, if_neg c0, st_Take_j0]
      by_cases c1 : s.data.toList.take 1 = [27]
      · rw [if_pos (decide_eq_true c1), rsequence_go s final _ (by omega), Option.bind_some, if_pos c1]
        unfold escapedL
        have hmeta : ∀ (a : ByteArray) (b : Int), backseatref03_Take.j1 (k + 1 + 1 + 1 + 1) s final a b false = some (pairF (if letterL (s.data.toList.drop 1) ≠ [] ∧ letterL (s.data.toList.drop 1) ≠ [91] ∧ letterL (s.data.toList.drop 1) ≠ [79] then ([77, 45] ++ letterL (s.data.toList.drop 1), 1 + (letterL (s.data.toList.drop 1)).length) else if shortL (s.data.toList.drop 1) = true ∧ final = false then ([], 0) else ([69, 115, 99], 1))) := by
          intro a b
          rw [st_Take_j1, if_neg (by decide), if_pos (by omega), hbt, decide_eq_true c1, st_Take_j2, if_pos rfl, rmeta_go s final _ (by omega) h1 h2, Option.bind_some]
          unfold metaT
          by_cases c3 : letterL (s.data.toList.drop 1) ≠ [] ∧ letterL (s.data.toList.drop 1) ≠ [91] ∧ letterL (s.data.toList.drop 1) ≠ [79]
          · rw [if_pos c3, if_pos c3, st_Take_j3, if_pos rfl]; rfl
          · rw [if_neg c3, if_neg c3]
            cases hs : shortL (s.data.toList.drop 1) with
            | true =>
              cases final with
              | false => rw [if_pos rfl, st_Take_j3, if_pos (by rfl), if_pos ⟨rfl, rfl⟩]; rfl
              | true => rw [if_pos rfl, st_Take_j3, if_neg (by decide), if_pos (by omega), if_pos (hbt2.2 c1), if_neg (fun h => by cases h.2)]; rfl
            | false => rw [if_neg (by decide), st_Take_j3, if_neg (by decide), if_pos (by omega), if_pos (hbt2.2 c1), if_neg (fun h => by cases h.1)]; rfl
        by_cases hp : Lib.hasPrefix s.data.toList [27, 91] = true
        · rw [if_pos hp]
          unfold seqT
          by_cases p1 : 0 < controlL s.data.toList
          · rw [if_pos p1, if_pos ⟨hp, p1⟩, st_Take_j1, if_pos rfl, st_Take_j2, if_neg (by decide), st_Take_j3, if_pos rfl]
            congr 1
            refine Prod.ext rfl ?_
            show controlL s.data.toList = ((controlL s.data.toList).toNat : Int)
            omega
          · rw [if_neg p1, if_neg (show ¬ (Lib.hasPrefix s.data.toList [27, 91] = true ∧ 0 < controlL s.data.toList) from fun h => p1 h.2)]
            by_cases p2 : controlL s.data.toList < 0
            · rw [if_pos p2]
              cases final with
              | false => rw [if_pos ⟨hp, p2, rfl⟩, st_Take_j1, if_pos (by rfl), st_Take_j2, if_neg (by decide), st_Take_j3, if_pos (by rfl)]; rfl
              | true =>
                rw [if_neg (show ¬ (Lib.hasPrefix s.data.toList [27, 91] = true ∧ controlL s.data.toList < 0 ∧ true = false) from fun h => by cases h.2.2)]
                exact hmeta _ _
            · rw [if_neg p2, if_neg (show ¬ (Lib.hasPrefix s.data.toList [27, 91] = true ∧ controlL s.data.toList < 0 ∧ final = false) from fun h => p2 h.2.1)]
              exact hmeta _ _
        · rw [if_neg hp, if_neg (show ¬ (Lib.hasPrefix s.data.toList [27, 91] = true ∧ 0 < controlL s.data.toList) from fun h => hp h.1), if_neg (show ¬ (Lib.hasPrefix s.data.toList [27, 91] = true ∧ controlL s.data.toList < 0 ∧ final = false) from fun h => hp h.1)]
          exact hmeta _ _
      · rw [if_neg (by rw [decide_eq_false c1]; decide), if_neg c1, st_Take_j1, if_neg (by decide), if_pos (by omega), hbt, decide_eq_false c1, st_Take_j2, if_neg (by decide), st_Take_j3, if_neg (by decide), if_pos (by omega), if_neg (fun h => c1 (hbt2.1 h)), rletter_go s _ (by omega), Option.bind_some, Lib.toList_data, ba_data]
        by_cases c2 : letterL s.data.toList = []
        · rw [if_pos c2, if_neg (show ¬ letterL s.data.toList ≠ [] from fun h => h c2), ref_go s _ (by omega), Option.bind_some]
          by_cases c3 : (firstL s.data.toList).2.2 = 2
          · rw [if_pos c3, if_pos c3, st_Take_j4]
            cases final with
            | false => rw [if_pos (by rfl), if_neg (by decide)]; rfl
            | true => rw [if_neg (by decide), if_pos c3, if_pos rfl]; rfl
          · rw [if_neg c3, if_neg c3, st_Take_j4, if_neg (by decide), if_neg c3]
            congr 1
            refine Prod.ext rfl ?_
            rcases firstL_len s.data.toList with ⟨e, _⟩ | ⟨_, e1, _, _⟩
            · exact absurd e c3
            · show (firstL s.data.toList).2.1 = ((firstL s.data.toList).2.1.toNat : Int)
              omega
        · rw [if_neg c2, if_pos (show letterL s.data.toList ≠ [] from c2)]; rfl
end Go.Proofs.YtbnpcnpdeinacaaDoor
end
