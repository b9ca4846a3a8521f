-- A copy of the text YtbnpcnpdeinacaaDoorMK6 with what this claim does not reach left out (prune.py, a program of this project).
import Derived.Test.YtbnpcnpdeinacaaDoorZkGBytes
import Derived.Test.YtbnpcnpdeinacaaDoorZkMRef
import Derived.Test.YtbnpcnpdeinacaaDoorZkPx10
import Derived.Test.YtbnpcnpdeinacaaDoorZkPx11
namespace Go.Proofs.YtbnpcnpdeinacaaDoor
open Go.RowKit Go.Lib Go.Proofs.YtbnpcnpdeinacaaDoorW.PrintWords Go.Proofs.YtbnpcnpdeinacaaDoorW.PrintLast Go.Proofs.YtbnpcnpdeinacaaDoorW.PrintMore Go.Proofs.YtbnpcnpdeinacaaDoor.P
set_option linter.unusedVariables false
theorem in_go (r a b : Int) : backseatref01_in.f r a b = some (decide (a ≤ r ∧ r ≤ b)) := by
  unfold backseatref01_in.f
  by_cases h : r ≥ a
  · rw [if_pos h]; congr 1; rw [decide_eq_decide]; omega
  · rw [if_neg h]; congr 1; symm; rw [decide_eq_false_iff_not]; omega
theorem is_go (r : Int) : backseatref01_Is.f r = some (Lib.validRune r) := by
  unfold backseatref01_Is.f Lib.validRune
  repeat' split
  all_goals (congr 1; first | (symm; rw [decide_eq_true_eq]; omega) | (symm; rw [decide_eq_false_iff_not]; omega) | (rw [decide_eq_decide]; omega))
theorem wj0 (k : Nat) (x : Int) (b : Bool) : backseatref01_Width.j0 (k + 1) x b = if b = true then (some (-1)) else ((backseatref01_in.f x 768 879).bind fun t164 => (if t164 = true then (backseatref01_Width.j1 k x true) else ((backseatref01_in.f x 8203 8205).bind fun t165 => (if t165 = true then (backseatref01_Width.j1 k x true) else ((backseatref01_in.f x 65024 65039).bind fun t166 => (backseatref01_Width.j1 k x t166)))))) := by simp only [backseatref01_Width.j0]
theorem wj1 (k : Nat) (x : Int) (b : Bool) : backseatref01_Width.j1 (k + 1) x b = if b = true then (some 0) else ((backseatref01_in.f x 4352 4447).bind fun t167 => (if t167 = true then (backseatref01_Width.j2 k x true) else ((backseatref01_in.f x 12353 19903).bind fun t168 => (if t168 = true then (backseatref01_Width.j2 k x true) else ((backseatref01_in.f x 19968 40959).bind fun t169 => (if t169 = true then (backseatref01_Width.j2 k x true) else ((backseatref01_in.f x 44032 55203).bind fun t170 => (backseatref01_Width.j2 k x t170)))))))) := by simp only [backseatref01_Width.j1]
theorem wj2 (k : Nat) (x : Int) (b : Bool) : backseatref01_Width.j2 (k + 1) x b = if b = true then (some 2) else ((backseatref01_in.f x 63744 64255).bind fun t171 => (if t171 = true then (some 2) else ((backseatref01_in.f x 65281 65376).bind fun t172 => (if t172 = true then (some 2) else ((backseatref01_in.f x 127744 129791).bind fun t173 => (if t173 = true then (some 2) else ((backseatref01_in.f x 131072 262141).bind fun t174 => (if t174 = true then (some 2) else (some 1)))))))) ) := by simp only [backseatref01_Width.j2]
theorem width_go (r : Int) (k : Nat) (hk : 5 ≤ k) : backseatref01_Width.f k r = some (widthZ r) := by
  obtain ⟨k, rfl⟩ : ∃ m, k = m + 1 + 1 + 1 := ⟨k - 3, by omega⟩
  unfold backseatref01_Width.f widthZ
  rw [is_go, Option.bind_some]
  cases hv : Lib.validRune r with
  | false => rw [if_neg (by decide), wj0, if_pos rfl, if_pos (.inl rfl)]
  | true =>
    rw [if_pos rfl]
    by_cases h32 : r < 32
    · rw [if_pos h32, wj0, if_pos rfl, if_pos (.inr (.inl h32))]
    rw [if_neg h32, in_go, Option.bind_some, wj0]
    by_cases hc : 127 ≤ r ∧ r < 160
    · rw [if_pos (by rw [decide_eq_true_eq]; omega), if_pos (.inr (.inr hc))]
    rw [if_neg (by rw [decide_eq_true_eq]; omega), if_neg (by rintro (h | h | h) <;> first | exact h32 h | exact hc h | exact absurd h (by decide))]
    simp only [in_go, Option.bind_some, zeroL, wideL, List.any_cons, List.any_nil, inSpan, wj1, wj2, decide_eq_true_eq, Bool.or_false, Bool.or_eq_true, Bool.and_eq_true, if_true]
    repeat' split
    all_goals first | rfl | (exfalso; omega)
theorem rletter_go (s : ByteArray) (k : Nat) (hk : 20 ≤ k) : backseatref03_Letter.f k s = some (ba (letterL s.data.toList)) := by
  unfold backseatref03_Letter.f letterL
  rw [ref_go s k hk, Option.bind_some]
  by_cases h0 : (firstL s.data.toList).2.2 = 0
  · rw [if_pos h0, if_pos h0, width_go _ k (by omega), Option.bind_some]
    by_cases hw : widthZ (firstL s.data.toList).1 < 0
    · rw [if_pos hw, if_pos hw]; rfl
    · rcases firstL_len s.data.toList with ⟨h, _⟩ | ⟨_, h1, h2, _⟩
      · omega
      rw [if_neg hw, if_neg hw, if_pos (by omega), if_pos (by rw [size_len]; exact h2)]
      congr 1
      exact ba_eq _ _ (toList_take _ _)
  · rw [if_neg h0, if_neg h0]; rfl
theorem rshort_go (s : ByteArray) (k : Nat) (hk : 20 ≤ k) : backseatref03_short.f k s = some (shortL s.data.toList) := by
  unfold backseatref03_short.f shortL
  by_cases h : s.data.toList = []
  · rw [if_neg (by rw [size_len, h]; simp), h]; rfl
  · have : 0 < s.data.toList.length := List.length_pos_iff.2 h
    rw [if_pos (by rw [size_len]; omega), ref_go s k hk, Option.bind_some, decide_eq_true h]; rfl
theorem rprefix_go (a b : ByteArray) : backseatref03_prefix.f a b = some (Lib.hasPrefix a.data.toList b.data.toList) := by
  have h := hasPrefix_go a b
  unfold strings_HasPrefix.f at h
  obtain ⟨x, hx, h2⟩ := Option.bind_eq_some_iff.1 h
  rw [← h2]
  exact hx
/-- The names and their bytes, in the reference's order. -/
def RT : List (List UInt8 × List UInt8) := [([85, 112], [27, 91, 65]), ([68, 111, 119, 110], [27, 91, 66]), ([82, 105, 103, 104, 116], [27, 91, 67]), ([76, 101, 102, 116], [27, 91, 68]), ([72, 111, 109, 101], [27, 91, 72]), ([69, 110, 100], [27, 91, 70]), ([73, 110, 115], [27, 91, 50, 126]), ([68, 101, 108], [27, 91, 51, 126]), ([80, 103, 85, 112], [27, 91, 53, 126]), ([80, 103, 68, 110], [27, 91, 54, 126]), ([70, 49], [27, 79, 80]), ([70, 50], [27, 79, 81]), ([70, 51], [27, 79, 82]), ([70, 52], [27, 79, 83]), ([69, 110, 116, 101, 114], [13]), ([84, 97, 98], [9]), ([66, 115, 112], [127]), ([67, 45, 83, 112, 97, 99, 101], [0]), ([67, 45, 97], [1]), ([67, 45, 98], [2]), ([67, 45, 99], [3]), ([67, 45, 100], [4]), ([67, 45, 101], [5]), ([67, 45, 102], [6]), ([67, 45, 103], [7]), ([67, 45, 104], [8]), ([67, 45, 106], [10]), ([67, 45, 107], [11]), ([67, 45, 108], [12]), ([67, 45, 110], [14]), ([67, 45, 111], [15]), ([67, 45, 112], [16]), ([67, 45, 113], [17]), ([67, 45, 114], [18]), ([67, 45, 115], [19]), ([67, 45, 116], [20]), ([67, 45, 117], [21]), ([67, 45, 118], [22]), ([67, 45, 119], [23]), ([67, 45, 120], [24]), ([67, 45, 121], [25]), ([67, 45, 122], [26]), ([67, 45, 52], [28]), ([67, 45, 53], [29]), ([67, 45, 54], [30]), ([67, 45, 55], [31])]
theorem RT_NL : (∀ p ∈ RT, p ∈ NL) ∧ (∀ p ∈ NL, p ∈ RT) := by decide +kernel
theorem names60 : backseatref03_Names.f 60 = some (RT.map fun p => ba p.1) := by kernel_rfl
theorem names_go (k : Nat) (hk : 60 ≤ k) : backseatref03_Names.f k = some (RT.map fun p => ba p.1) := at_rounds (g := fun k => backseatref03_Names.f k) backseatref03_Names.mono hk names60
theorem NL_keys' : ∀ p ∈ NL, ∀ q ∈ NL, p.1 = q.1 → p = q := by decide +kernel
/-- What Named answers of a name. -/
def valL (x : List UInt8) : List UInt8 := (keyL x).getD []
theorem valL_of {p : List UInt8 × List UInt8} (hp : p ∈ NL) : valL p.1 = p.2 := by
  unfold valL keyL
  cases hf : NL.find? (fun q => q.1 == p.1) with
  | none => exact absurd (beq_self_eq_true p.1) (List.find?_eq_none.1 hf p hp)
  | some q =>
    have hq : q.1 = p.1 := by simpa using List.find?_some hf
    rw [NL_keys' q (List.mem_of_find?_eq_some hf) p hp hq]; rfl
theorem valL_no {x : List UInt8} (h : ∀ p ∈ NL, p.1 ≠ x) : valL x = [] ∧ keyL x = none := by
  have : keyL x = none := by
    unfold keyL
    rw [Option.map_eq_none_iff, List.find?_eq_none]
    intro p hp
    simpa using h p hp
  exact ⟨by unfold valL; rw [this]; rfl, this⟩
def longs : List ByteArray := [(⟨#[27, 91, 65]⟩ : ByteArray), (⟨#[27, 91, 66]⟩ : ByteArray), (⟨#[27, 91, 67]⟩ : ByteArray), (⟨#[27, 91, 68]⟩ : ByteArray), (⟨#[27, 91, 72]⟩ : ByteArray), (⟨#[27, 91, 70]⟩ : ByteArray), (⟨#[27, 91, 50, 126]⟩ : ByteArray), (⟨#[27, 91, 51, 126]⟩ : ByteArray), (⟨#[27, 91, 53, 126]⟩ : ByteArray), (⟨#[27, 91, 54, 126]⟩ : ByteArray), (⟨#[27, 79, 80]⟩ : ByteArray), (⟨#[27, 79, 81]⟩ : ByteArray), (⟨#[27, 79, 82]⟩ : ByteArray), (⟨#[27, 79, 83]⟩ : ByteArray), (⟨#[13]⟩ : ByteArray), (⟨#[9]⟩ : ByteArray), (⟨#[127]⟩ : ByteArray), (⟨#[0]⟩ : ByteArray)]
def valF (x : ByteArray) (i : Nat) : Option ByteArray := if (i : Int) < (longs.length : Int) then some (rdOf ByteArray.empty longs (i : Int)) else (if 2 < (x.size : Int) then (if (bt x 2) ≥ 97 then (some (strOfNums (([((((bt x 2) - 97) % 256) + 1) % 256] : List Int)))) else (some (strOfNums (([((((bt x 2) - 52) % 256) + 28) % 256] : List Int))))) else (none))
theorem valF_all : ∀ i, i < 46 → (valF (ba (RT.getD i ([], [])).1) i).map (fun b => b.data.toList) = some (RT.getD i ([], [])).2 := by decide +kernel
theorem valF_go (i : Nat) (hi : i < 46) : valF (ba (RT.getD i ([], [])).1) i = some (ba (RT.getD i ([], [])).2) := by
  obtain ⟨b, hb, h⟩ := Option.map_eq_some_iff.1 (valF_all i hi)
  rw [hb, ba_eq b _ h]
theorem named_loop (x : ByteArray) : ∀ (d i k : Nat), i + d = 46 → d < k → (∀ j, j < i → (RT.getD j ([], [])).1 ≠ x.data.toList) → backseatref03_Named.l0 k x longs (RT.map fun p => ba p.1) 46 (i : Int) = some (ba (valL x.data.toList)) := by
  intro d
  induction d with
  | zero =>
    intro i k hi hk hno
    obtain ⟨k, rfl⟩ : ∃ m, k = m + 1 := ⟨k - 1, by omega⟩
    simp only [backseatref03_Named.l0]
    rw [if_neg (by omega)]
    have := (valL_no (x := x.data.toList) (fun p hp => by
      obtain ⟨j, hj, he⟩ := List.getElem_of_mem (RT_NL.2 p hp)
      have h46 : RT.length = 46 := rfl
      have h1 := hno j (by omega)
      rw [List.getD_eq_getElem?_getD, List.getElem?_eq_getElem hj] at h1
      rw [← he]
      exact h1)).1
    rw [this]; rfl
  | succ d ih =>
    intro i k hi hk hno
    obtain ⟨k, rfl⟩ : ∃ m, k = m + 1 := ⟨k - 1, by omega⟩
    have h46 : RT.length = 46 := rfl
    have hr : rdOf ByteArray.empty (RT.map fun p => ba p.1) (i : Int) = ba (RT.getD i ([], [])).1 := by
      unfold rdOf
      rw [Int.toNat_natCast, List.getD_eq_getElem?_getD, List.getElem?_map, List.getElem?_eq_getElem (by omega), List.getD_eq_getElem?_getD, List.getElem?_eq_getElem (by omega)]
      rfl
    have hlen : ((RT.map fun p => ba p.1).length : Int) = 46 := rfl
    simp only [backseatref03_Named.l0]
    rw [if_pos (by omega), if_pos (by omega), if_pos (by rw [hlen]; omega), hr, Lib.toList_data, ba_data, Lib.toList_data]
    by_cases hx : (RT.getD i ([], [])).1 = x.data.toList
    · rw [if_pos hx]
      have hm : RT.getD i ([], []) ∈ RT := by rw [List.getD_eq_getElem?_getD, List.getElem?_eq_getElem (by omega)]; exact List.getElem_mem _
      have hv := valF_go i (by omega)
      rw [← ba_eq x _ hx.symm] at hv
      unfold valF at hv
      rw [hv, ← hx, valL_of (RT_NL.1 _ hm)]
    · rw [if_neg hx, show wrap64 ((i : Int) + 1) = ((i + 1 : Nat) : Int) from by unfold wrap64; omega]
      refine ih (i + 1) k (by omega) (by omega) fun j hj => ?_
      by_cases hji : j = i
      · rw [hji]; exact hx
      · exact hno j (by omega)
theorem rNamed_go (x : ByteArray) (k : Nat) (hk : 60 ≤ k) : backseatref03_Named.f k x = some (ba (valL x.data.toList)) := by
  unfold backseatref03_Named.f
  rw [names_go k hk, Option.bind_some]
  exact named_loop x 46 0 k (by omega) (by omega) (fun j hj => absurd hj (by omega))
end Go.Proofs.YtbnpcnpdeinacaaDoor
