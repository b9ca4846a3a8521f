-- A copy of the text YthipdgnbpdngpaaDoorMWrite with what this claim does not reach left out (prune.py, a program of this project).
import Derived.Test.YthipdgnbpdngpaaDoorZaMBack
import Derived.Test.YthipdgnbpdngpaaDoorZaPx9
namespace Go.Proofs.YthipdgnbpdngpaaDoor
open Go.RowKit Go.Lib Go.Proofs.YthipdgnbpdngpaaDoorW.PrintWords Go.Proofs.YthipdgnbpdngpaaDoorW.PrintLast Go.Proofs.YthipdgnbpdngpaaDoorW.PrintMore Go.Proofs.YthipdgnbpdngpaaDoor.P
theorem in_go (r a b : Int) : backseatref01_in.f r a b = some (decide (a ≤ r ∧ r ≤ b)) := by
  unfold backseatref01_in.f
  by_cases h : r ≥ a
  · rw [if_pos h]; congr 1; rw [decide_eq_decide]; omega
  · rw [if_neg h]; congr 1; symm; rw [decide_eq_false_iff_not]; omega
theorem is_go (r : Int) : backseatref01_Is.f r = some (Lib.validRune r) := by
  unfold backseatref01_Is.f Lib.validRune
  repeat' split
  all_goals (congr 1; first | (symm; rw [decide_eq_true_eq]; omega) | (symm; rw [decide_eq_false_iff_not]; omega) | (rw [decide_eq_decide]; omega))
theorem wj0 (k : Nat) (x : Int) (b : Bool) : backseatref01_Width.j0 (k + 1) x b = if b = true then (some (-1)) else ((backseatref01_in.f x 768 879).bind fun t164 => (if t164 = true then (backseatref01_Width.j1 k x true) else ((backseatref01_in.f x 8203 8205).bind fun t165 => (if t165 = true then (backseatref01_Width.j1 k x true) else ((backseatref01_in.f x 65024 65039).bind fun t166 => (backseatref01_Width.j1 k x t166)))))) := by simp only [backseatref01_Width.j0]
theorem wj1 (k : Nat) (x : Int) (b : Bool) : backseatref01_Width.j1 (k + 1) x b = if b = true then (some 0) else ((backseatref01_in.f x 4352 4447).bind fun t167 => (if t167 = true then (backseatref01_Width.j2 k x true) else ((backseatref01_in.f x 12353 19903).bind fun t168 => (if t168 = true then (backseatref01_Width.j2 k x true) else ((backseatref01_in.f x 19968 40959).bind fun t169 => (if t169 = true then (backseatref01_Width.j2 k x true) else ((backseatref01_in.f x 44032 55203).bind fun t170 => (backseatref01_Width.j2 k x t170)))))))) := by simp only [backseatref01_Width.j1]
theorem wj2 (k : Nat) (x : Int) (b : Bool) : backseatref01_Width.j2 (k + 1) x b = if b = true then (some 2) else ((backseatref01_in.f x 63744 64255).bind fun t171 => (if t171 = true then (some 2) else ((backseatref01_in.f x 65281 65376).bind fun t172 => (if t172 = true then (some 2) else ((backseatref01_in.f x 127744 129791).bind fun t173 => (if t173 = true then (some 2) else ((backseatref01_in.f x 131072 262141).bind fun t174 => (if t174 = true then (some 2) else (some 1)))))))) ) := by simp only [backseatref01_Width.j2]
theorem width_go (r : Int) (k : Nat) (hk : 5 ≤ k) : backseatref01_Width.f k r = some (widthZ r) := by
  obtain ⟨k, rfl⟩ : ∃ m, k = m + 1 + 1 + 1 := ⟨k - 3, by omega⟩
  unfold backseatref01_Width.f widthZ
  rw [is_go, Option.bind_some]
  cases hv : Lib.validRune r with
  | false => rw [if_neg (by decide), wj0, if_pos rfl, if_pos (.inl rfl)]
  | true =>
    rw [if_pos rfl]
    by_cases h32 : r < 32
    · rw [if_pos h32, wj0, if_pos rfl, if_pos (.inr (.inl h32))]
    rw [if_neg h32, in_go, Option.bind_some, wj0]
    by_cases hc : 127 ≤ r ∧ r < 160
    · rw [if_pos (by rw [decide_eq_true_eq]; omega), if_pos (.inr (.inr hc))]
    rw [if_neg (by rw [decide_eq_true_eq]; omega), if_neg (by rintro (h | h | h) <;> first | exact h32 h | exact hc h | exact absurd h (by decide))]
    simp only [in_go, Option.bind_some, zeroL, wideL, List.any_cons, List.any_nil, inSpan, wj1, wj2, decide_eq_true_eq, Bool.or_false, Bool.or_eq_true, Bool.and_eq_true, if_true]
    repeat' split
    all_goals first | rfl | (exfalso; omega)
theorem tl (k : Nat) (x0 x3 : Int) (x4 : List Int) (x5 : Int) : backseatref01_Text.l0 (k + 1) x0 x3 x4 x5 = if x5 < x3 then ((some (([(wrap32 (128 + (Int.tmod x0 64))) % 256] : List Int) : List Int)).bind fun y182 => (if y182.length + x4.length < 140737488355328 then (backseatref01_Text.l0 k (wrap32 (Int.tdiv x0 64)) x3 (y182 ++ x4) (wrap64 (x5 + 1))) else (none))) else ((some (([0, 0, 192, 224, 240] : List Int) : List Int)).bind fun y188 => (if 0 ≤ x3 then (if x3 < (y188.length : Int) then ((some (([(wrap64 ((rd y188 x3) + (wrap64 (x0)))) % 256] : List Int) : List Int)).bind fun y192 => (if y192.length + x4.length < 140737488355328 then (some (strOfNums (y192 ++ x4))) else (none))) else (none)) else (none))) := by simp only [backseatref01_Text.l0]
theorem t_step (k : Nat) (r n i : Int) (l : List Int) (hr : 0 ≤ r) (hr1 : r ≤ 1114111) (hi : i < n) (hi0 : 0 ≤ i) (hn : n ≤ 4) (hl : l.length ≤ 5) : backseatref01_Text.l0 (k + 1) r n l i = backseatref01_Text.l0 k (r / 64) n ([128 + r % 64] ++ l) (i + 1) := by
  rw [tl, if_pos hi, Option.bind_some, if_pos (by simp; omega), Int.tmod_eq_emod_of_nonneg hr, Int.tdiv_eq_ediv_of_nonneg hr, w32 (by omega) (by omega), w32 (by omega) (by omega), w64 (by omega) (by omega), show (128 + r % 64) % 256 = 128 + r % 64 by omega]
theorem t_end (k : Nat) (r n : Int) (l : List Int) (hr : 0 ≤ r) (hr1 : r ≤ 60) (hn0 : 2 ≤ n) (hn : n ≤ 4) (hh : rd [0, 0, 192, 224, 240] n + r < 256) (hl : l.length ≤ 5) : backseatref01_Text.l0 (k + 1) r n l n = some (strOfNums ([rd [0, 0, 192, 224, 240] n + r] ++ l)) := by
  have h2 : n = 2 ∨ n = 3 ∨ n = 4 := by omega
  have hb : 192 ≤ rd [0, 0, 192, 224, 240] n := by rcases h2 with rfl | rfl | rfl <;> decide
  rw [tl, if_neg (by omega), Option.bind_some, if_pos (by omega), if_pos (by simp; omega), Option.bind_some, if_pos (by simp; omega), w64 (i := r) (by omega) (by omega), w64 (by omega) (by omega), Int.emod_eq_of_lt (by omega) hh]
theorem nums_enc (l : List Int) (m : List UInt8) (h : (l.map fun n => UInt8.ofNat n.toNat) = m) : (strOfNums l).data.toList = m := by rw [strOfNums_data]; exact h
theorem text_ref (r : Int) (hv : Lib.validRune r = true) (k : Nat) (hk : 10 ≤ k) : backseatref01_Text.f k r = some (Utf8.encode r) := by
  obtain ⟨k, rfl⟩ : ∃ m, k = m + 10 := ⟨k - 10, by omega⟩
  have hz := (valid_iff r).mp hv
  unfold backseatref01_Text.f backseatref01_Size.f
  by_cases h1 : r < 128
  · rw [if_pos h1, Option.bind_some, if_pos rfl]
    congr 1
    refine ba_ext _ _ (nums_enc _ _ ?_)
    show _ = enc r
    rw [enc1 r (by omega) h1, Int.emod_eq_of_lt (by omega) (by omega)]; rfl
  by_cases h2 : r < 2048
  · rw [if_neg h1, if_pos h2, Option.bind_some, if_neg (by omega), t_step _ _ _ _ _ (by omega) (by omega) (by omega) (by omega) (by omega) (by simp), show (1 : Int) + 1 = 2 from rfl, t_end _ _ _ _ (by omega) (by omega) (by omega) (by omega) (by rw [show rd [0, 0, 192, 224, 240] 2 = 192 by decide]; omega) (by simp)]
    congr 1
    refine ba_ext _ _ (nums_enc _ _ ?_)
    show _ = enc r
    rw [enc2 r (by omega) h2, show rd [0, 0, 192, 224, 240] 2 = 192 by decide]
    simp only [List.append_nil, List.singleton_append, List.map_cons, List.map_nil]
    rw [show (192 + r / 64).toNat = 192 + r.toNat / 64 by omega, show (128 + r % 64).toNat = 128 + r.toNat % 64 by omega]
  by_cases h3 : r < 65536
  · rw [if_neg h1, if_neg h2, if_pos h3, Option.bind_some, if_neg (by omega), t_step _ _ _ _ _ (by omega) (by omega) (by omega) (by omega) (by omega) (by simp), show (1 : Int) + 1 = 2 from rfl, t_step _ _ _ _ _ (by omega) (by omega) (by omega) (by omega) (by omega) (by simp), show (2 : Int) + 1 = 3 from rfl, t_end _ _ _ _ (by omega) (by omega) (by omega) (by omega) (by rw [show rd [0, 0, 192, 224, 240] 3 = 224 by decide]; omega) (by simp)]
    congr 1
    refine ba_ext _ _ (nums_enc _ _ ?_)
    show _ = enc r
    rw [enc3 r hv (by omega) h3, show rd [0, 0, 192, 224, 240] 3 = 224 by decide]
    simp only [List.append_nil, List.singleton_append, List.map_cons, List.map_nil]
    rw [show (224 + r / 64 / 64).toNat = 224 + r.toNat / 4096 by omega, show (128 + r / 64 % 64).toNat = 128 + r.toNat / 64 % 64 by omega, show (128 + r % 64).toNat = 128 + r.toNat % 64 by omega]
  · rw [if_neg h1, if_neg h2, if_neg h3, Option.bind_some, if_neg (by omega), t_step _ _ _ _ _ (by omega) (by omega) (by omega) (by omega) (by omega) (by simp), show (1 : Int) + 1 = 2 from rfl, t_step _ _ _ _ _ (by omega) (by omega) (by omega) (by omega) (by omega) (by simp), show (2 : Int) + 1 = 3 from rfl, t_step _ _ _ _ _ (by omega) (by omega) (by omega) (by omega) (by omega) (by simp), show (3 : Int) + 1 = 4 from rfl, t_end _ _ _ _ (by omega) (by omega) (by omega) (by omega) (by rw [show rd [0, 0, 192, 224, 240] 4 = 240 by decide]; omega) (by simp)]
    congr 1
    refine ba_ext _ _ (nums_enc _ _ ?_)
    show _ = enc r
    rw [enc4 r hv (by omega), show rd [0, 0, 192, 224, 240] 4 = 240 by decide]
    simp only [List.append_nil, List.singleton_append, List.map_cons, List.map_nil]
    rw [show (240 + r / 64 / 64 / 64).toNat = 240 + r.toNat / 262144 by omega, show (128 + r / 64 / 64 % 64).toNat = 128 + r.toNat / 4096 % 64 by omega, show (128 + r / 64 % 64).toNat = 128 + r.toNat / 64 % 64 by omega, show (128 + r % 64).toNat = 128 + r.toNat % 64 by omega]
end Go.Proofs.YthipdgnbpdngpaaDoor
