/- The laws UtfBack, UtfGoes and UtfWrites, plain. -/
import Derived.Test.YthipdgnbpdngpaaDoorMEnc
import Derived.Test.YthipdgnbpdngpaaDoorPx5
import Derived.Test.YthipdgnbpdngpaaDoorPx6
namespace Go.Proofs.YthipdgnbpdngpaaDoor
open Go.RowKit Go.Lib Go.Proofs.YthipdgnbpdngpaaDoorW.PrintWords Go.Proofs.YthipdgnbpdngpaaDoorW.PrintLast Go.Proofs.YthipdgnbpdngpaaDoorW.PrintMore Go.Proofs.YthipdgnbpdngpaaDoor.P
theorem ba_ext (a b : ByteArray) (h : a.data.toList = b.data.toList) : a = b := ByteArray.ext (Array.ext' h)
theorem append_list (a b : ByteArray) : (a ++ b).data.toList = a.data.toList ++ b.data.toList := by rw [ByteArray.data_append, Array.toList_append]
theorem valid_go (s : ByteArray) (h : s.size ≤ 9223372036854775807) : utf_Valid.f s = some (validD s.data.toList) := by
  unfold utf_Valid.f utf8_ValidString.f
  rw [if_pos h]; rfl
theorem text_ok (r : Int) (hv : Lib.validRune r = true) : utf_Text.f r = some (Utf8.encode r, 0) := by unfold utf_Text.f; rw [if_pos hv]
theorem text_no (r : Int) (hv : Lib.validRune r = false) : utf_Text.f r = some ((⟨#[]⟩ : ByteArray), 1) := by unfold utf_Text.f; rw [if_neg (by rw [hv]; exact Bool.false_ne_true)]
theorem enc_size (r : Int) : (Utf8.encode r).size = (enc r).length := (len_size _).symm
theorem bj2 (k : Nat) (x1 : ByteArray) : backseatlaw01_UtfBack.j2 (k + 1) x1 = (utf_First.f k x1).bind fun b => (if b.2.2 = 0 then ((utf_Text.f b.1).bind fun c => ((backseatlaw01_alive.f k).bind fun t => (if t = true then (if c.2 = 0 then (if b.2.1 ≤ (x1.size : Int) then (if 0 ≤ b.2.1 then (some (c.1.toList == (x1.extract 0 (b.2.1 : Int).toNat).toList)) else (none)) else (some false)) else (some false)) else (some false)))) else ((backseatlaw01_alive.f k).bind fun t => (if t = true then (if b.1 = 0 then (if b.2.2 = 2 then (if b.2.1 = 0 then (some true) else (if b.2.2 = 4 then (if b.2.1 ≥ 1 then (if b.2.1 ≤ (x1.size : Int) then ((utf_Valid.f x1).bind fun u => (some (!u))) else (some false)) else (some false)) else (some false))) else (if b.2.2 = 4 then (if b.2.1 ≥ 1 then (if b.2.1 ≤ (x1.size : Int) then ((utf_Valid.f x1).bind fun u => (some (!u))) else (some false)) else (some false)) else (some false))) else (some false)) else (some false)))) := by simp only [backseatlaw01_UtfBack.j2]
theorem back_two (k : Nat) (hk : 20 ≤ k) (s : ByteArray) (hs : s.size ≤ 1000) : backseatlaw01_UtfBack.j2 k s = some true := by
  obtain ⟨k, rfl⟩ : ∃ m, k = m + 1 := ⟨k - 1, by omega⟩
  rw [bj2, first_go s k (by omega), alive_go k (by omega), valid_go s (by omega)]
  simp only [Option.bind_some, if_true]
  have hl := len_size s
  by_cases hz : s.size = 0
  · have e : firstL s.data.toList = (0, 0, 2) := by unfold firstL; rw [hl, if_pos hz]
    rw [e]; rfl
  by_cases he : (firstL s.data.toList).2.2 = 0
  · have hb := first_back s.data.toList (by omega) he
    rw [if_pos he, text_ok _ hb.1]
    simp only [Option.bind_some, if_true]
    rw [if_pos (by omega), if_pos (by omega)]
    have : Utf8.encode (firstL s.data.toList).1 = s.extract 0 (firstL s.data.toList).2.1.toNat := by
      refine ba_ext _ _ ?_
      rw [toList_extract, List.drop_zero, Nat.sub_zero]
      exact hb.2.1
    rw [this]; simp
  · rw [if_neg he]
    rcases first_dec s.data.toList (by omega) with ⟨hd, h1, h2⟩ | ⟨hd, hF, _⟩
    · have hne : s.data.toList ≠ [] := fun h => by rw [h] at hl; simp at hl; omega
      have hv : validD s.data.toList = false := by rw [validD_step _ hne, if_pos ⟨congrArg Prod.fst hd, congrArg Prod.snd hd⟩]
      rw [if_pos h1, hv]
      rcases h2 with ⟨a, b, _⟩ | ⟨a, b, c, d⟩
      · rw [if_pos a, if_pos b]
      · rw [if_neg (by omega), if_pos a, if_pos (by omega), if_pos (by omega)]; rfl
    · exact absurd (by rw [hF]) he
theorem bl0 (k : Nat) (x1 x5 : ByteArray) (x58 x59 : Int) : backseatlaw01_UtfBack.l0 (k + 1) x1 x5 x58 x59 = if x59 < x58 then (if 0 ≤ x59 then (if x59 ≤ (x5.size : Int) then ((utf_First.f k (x5.extract 0 (x59 : Int).toNat)).bind fun b => (if b.2.2 = 2 then (if b.2.1 = 0 then (backseatlaw01_UtfBack.l0 k x1 x5 x58 (wrap64 (x59 + 1))) else (some false)) else (some false))) else (none)) else (none)) else (backseatlaw01_UtfBack.j2 k x1) := by simp only [backseatlaw01_UtfBack.l0]
theorem back_loop (s : ByteArray) (r : Int) (hv : Lib.validRune r = true) (hs : s.size ≤ 1000) : ∀ (d i k : Nat), i + d = (enc r).length → d + 25 ≤ k → backseatlaw01_UtfBack.l0 k s (Utf8.encode r) ((enc r).length : Int) (i : Int) = some true
  | 0, i, k, hi, hk => by
    obtain ⟨k, rfl⟩ : ∃ m, k = m + 1 := ⟨k - 1, by omega⟩
    rw [bl0, if_neg (by omega)]
    exact back_two k (by omega) s hs
  | d + 1, i, k, hi, hk => by
    obtain ⟨k, rfl⟩ : ∃ m, k = m + 1 := ⟨k - 1, by omega⟩
    have hle := enc_len r hv
    rw [bl0, if_pos (by omega), if_pos (by omega), if_pos (by rw [enc_size]; omega), first_go _ k (by omega), toList_extract, List.drop_zero, show ((i : Int)).toNat - 0 = i by omega]
    have := first_short r hv i (by omega)
    unfold enc at this
    rw [this]
    simp only [Option.bind_some, if_true]
    rw [w64 (by omega) (by omega)]
    exact back_loop s r hv hs d (i + 1) k (by omega) (by omega)
theorem bj0 (k : Nat) (x1 x5 : ByteArray) (b : Bool) : backseatlaw01_UtfBack.j0 (k + 1) x1 x5 b = if b = true then (some false) else (backseatlaw01_UtfBack.l0 k x1 x5 (x5.size : Int) 0) := by simp only [backseatlaw01_UtfBack.j0]
theorem UtfBack : backseatlaw01_UtfBack.Pure := by
  intro a0 a1 hw hs
  refine ⟨100 + 1, ?_⟩
  unfold backseatlaw01_UtfBack.f
  have hm : 0 ≤ mn (a1.size : Int) 100 ∧ mn (a1.size : Int) 100 ≤ a1.size ∧ mn (a1.size : Int) 100 ≤ 100 := by unfold mn; omega
  rw [if_pos hm.1, if_pos hm.2.1]
  have hx : (a1.extract 0 (mn (a1.size : Int) 100).toNat).size ≤ 100 := by rw [size_extract _ _ (by omega)]; omega
  generalize a1.extract 0 (mn (a1.size : Int) 100).toNat = s at hx ⊢
  cases hv : Lib.validRune a0 with
  | false =>
    rw [text_no a0 hv]
    simp only [Option.bind_some]
    rw [if_neg (by decide)]
    exact back_two _ (by omega) s (by omega)
  | true =>
    have hle := enc_len a0 hv
    rw [text_ok a0 hv]
    simp only [Option.bind_some, if_true]
    rw [if_pos (by rw [enc_size]; omega), first_go _ _ (by omega), append_list]
    have hF := first_enc a0 hv s.data.toList
    unfold enc at hF
    rw [hF]
    simp only [Option.bind_some, if_true]
    rw [if_pos (by rw [← len_size]), valid_go _ (by rw [enc_size]; omega)]
    have hv1 := valid_one a0 hv
    unfold enc at hv1
    rw [hv1]
    simp only [Option.bind_some]
    rw [bj0, if_neg (by decide), enc_size]
    exact back_loop s a0 hv (by omega) (enc a0).length 0 100 (by omega) (by omega)

theorem toList_nil (s : ByteArray) : s.toList = ([] : List UInt8) ↔ s.size = 0 := by
  rw [Lib.toList_data]
  constructor
  · intro h; have := len_size s; rw [h] at this; simp at this; omega
  · intro h; exact List.eq_nil_of_length_eq_zero (by rw [len_size]; exact h)
theorem gl0 (k : Nat) (x0 x1 x5 x6 : ByteArray) : backseatlaw01_UtfGoes.l0 (k + 1) x0 x1 x5 x6 = if x6.toList = ([] : List UInt8) then (backseatlaw01_UtfGoes.j2 k x0 x1 x5 x6) else ((utf_First.f k x6).bind fun b => (if b.2.2 = 2 then (backseatlaw01_UtfGoes.j2 k x0 x1 x5 x6) else (if b.2.1 < 1 then (backseatlaw01_UtfGoes.j1 k x0 x1 x5 x6 b.1 b.2.1 b.2.2 true) else (if b.2.1 > 4 then (backseatlaw01_UtfGoes.j1 k x0 x1 x5 x6 b.1 b.2.1 b.2.2 true) else (backseatlaw01_UtfGoes.j1 k x0 x1 x5 x6 b.1 b.2.1 b.2.2 (decide (b.2.1 > (x6.size : Int)))))))) := by simp only [backseatlaw01_UtfGoes.l0]
theorem gj1 (k : Nat) (x0 x1 x5 x6 : ByteArray) (x7 x8 x9 : Int) (b : Bool) : backseatlaw01_UtfGoes.j1 (k + 1) x0 x1 x5 x6 x7 x8 x9 b = if b = true then (some false) else (if x9 = 0 then ((utf_Text.f x7).bind fun c => (if c.2 = 0 then (if x5.size + c.1.size ≤ 9223372036854775807 then (if 0 ≤ x8 then (if x8 ≤ (x6.size : Int) then (backseatlaw01_UtfGoes.l0 k x0 x1 (x5 ++ c.1) (x6.extract (x8 : Int).toNat x6.size)) else (none)) else (none)) else (none)) else (some false))) else (if 0 ≤ x8 then (if x8 ≤ (x6.size : Int) then (backseatlaw01_UtfGoes.l0 k x0 x1 x5 (x6.extract (x8 : Int).toNat x6.size)) else (none)) else (none))) := by simp only [backseatlaw01_UtfGoes.j1]
theorem gj2 (k : Nat) (x0 x1 x5 x6 : ByteArray) : backseatlaw01_UtfGoes.j2 (k + 1) x0 x1 x5 x6 = if (x6.size : Int) > 3 then (backseatlaw01_UtfGoes.j3 k x0 x1 true) else ((utf_Valid.f x5).bind fun t155 => (if t155 = true then ((utf_Valid.f x0).bind fun t156 => (if t156 = true then (if x5.toList = x0.toList then ((backseatlaw01_alive.f k).bind fun t157 => (backseatlaw01_UtfGoes.j3 k x0 x1 (!t157))) else (backseatlaw01_UtfGoes.j3 k x0 x1 true)) else ((backseatlaw01_alive.f k).bind fun t158 => (backseatlaw01_UtfGoes.j3 k x0 x1 (!t158))))) else (backseatlaw01_UtfGoes.j3 k x0 x1 true))) := by simp only [backseatlaw01_UtfGoes.j2]
theorem gj3 (k : Nat) (x0 x1 : ByteArray) (b : Bool) : backseatlaw01_UtfGoes.j3 (k + 1) x0 x1 b = if b = true then (some false) else ((utf_Valid.f x0).bind fun t159 => (if t159 = true then (if x0.size + x1.size ≤ 9223372036854775807 then ((utf_Valid.f (x0 ++ x1)).bind fun t160 => ((utf_Valid.f x1).bind fun t161 => (some (t160 == t161)))) else (none)) else (some true))) := by simp only [backseatlaw01_UtfGoes.j3]
theorem goes_end (k : Nat) (hk : 20 ≤ k) (s t out rest : ByteArray) (hs : s.size ≤ 1000) (ht : t.size ≤ 1000) (ho : out.size ≤ 100000) (hr : rest.size ≤ 3) (hv : validD out.data.toList = true) (hsv : validD s.data.toList = true → out = s) : backseatlaw01_UtfGoes.j2 k s t out rest = some true := by
  obtain ⟨k, rfl⟩ : ∃ m, k = m + 1 + 1 := ⟨k - 2, by omega⟩
  have h3 : backseatlaw01_UtfGoes.j3 (k + 1) s t false = some true := by
    rw [gj3, if_neg (by decide), valid_go s (by omega), Option.bind_some]
    cases hvs : validD s.data.toList with
    | false => rw [if_neg (by decide)]
    | true =>
      rw [if_pos rfl, if_pos (by omega), valid_go _ (by rw [← len_size, append_list, List.length_append, len_size, len_size]; omega), valid_go t (by omega), append_list, valid_append _ _ _ (Nat.le_refl _) hvs]
      simp
  rw [gj2, if_neg (by omega), valid_go out (by omega), hv, valid_go s (by omega), alive_go (k + 1) (by omega)]
  simp only [Option.bind_some, if_true]
  cases hvs : validD s.data.toList with
  | false => rw [if_neg (by decide)]; exact h3
  | true => rw [if_pos rfl, if_pos (by rw [hsv hvs])]; exact h3
theorem goes_loop (s t : ByteArray) (hs : s.size ≤ 1000) (ht : t.size ≤ 1000) : ∀ (m : Nat) (out rest : ByteArray) (k : Nat), rest.size ≤ m → 2 * m + 30 ≤ k → out.size + 4 * rest.size ≤ 100000 → validD out.data.toList = true → (validD s.data.toList = true → out ++ rest = s ∧ validD rest.data.toList = true) → backseatlaw01_UtfGoes.l0 k s t out rest = some true
  | m, out, rest, k, hm, hk, hsz, hv, hsv => by
    obtain ⟨k, rfl⟩ : ∃ j, k = j + 1 + 1 := ⟨k - 2, by omega⟩
    have hl := len_size rest
    rw [gl0]
    by_cases hz : rest.size = 0
    · rw [if_pos ((toList_nil rest).mpr hz)]
      refine goes_end (k + 1) (by omega) s t out rest hs ht (by omega) (by omega) hv (fun h => ?_)
      have hn : rest.data.toList = [] := List.eq_nil_of_length_eq_zero (by omega)
      have := (hsv h).1
      refine ba_ext _ _ ?_
      rw [← this, append_list, hn, List.append_nil]
    · rw [if_neg (fun h => hz ((toList_nil rest).mp h)), first_go rest (k + 1) (by omega), Option.bind_some]
      match m, hm, hk with
      | 0, hm, _ => omega
      | m + 1, hm, hk =>
      by_cases he : (firstL rest.data.toList).2.2 = 0
      · have hb := first_back rest.data.toList (by omega) he
        have hle := enc_len _ hb.1
        have hel : (enc (firstL rest.data.toList).1).length = (firstL rest.data.toList).2.1.toNat := by rw [hb.2.1, List.length_take]; omega
        rw [if_neg (by omega), if_neg (by omega), if_neg (by omega), gj1, if_neg (by simp; omega), if_pos he, text_ok _ hb.1, Option.bind_some, if_pos rfl]
        simp only
        rw [if_pos (by rw [enc_size]; omega), if_pos (by omega), if_pos (by omega)]
        have hx : (rest.extract (firstL rest.data.toList).2.1.toNat rest.size).data.toList = rest.data.toList.drop (firstL rest.data.toList).2.1.toNat := by
          rw [toList_extract, List.take_of_length_le (by rw [List.length_drop]; omega)]
        have hxs : (rest.extract (firstL rest.data.toList).2.1.toNat rest.size).size = rest.size - (firstL rest.data.toList).2.1.toNat := by
          rw [← len_size, hx, List.length_drop, hl]
        have hos : (out ++ Utf8.encode (firstL rest.data.toList).1).size = out.size + (enc (firstL rest.data.toList).1).length := by
          rw [← len_size, append_list, List.length_append, len_size]; rfl
        have hvr := valid_enc (firstL rest.data.toList).1 hb.1 (rest.data.toList.drop (firstL rest.data.toList).2.1.toNat)
        rw [hb.2.1, List.take_append_drop] at hvr
        refine goes_loop s t hs ht m _ _ k (by omega) (by omega) (by omega) ?_ (fun h => ?_)
        · rw [append_list, valid_append _ _ _ (Nat.le_refl _) hv]; exact valid_one _ hb.1
        · obtain ⟨h1, h2⟩ := hsv h
          refine ⟨?_, by rw [hx, ← hvr]; exact h2⟩
          rw [← h1]
          refine ba_ext _ _ ?_
          rw [append_list, append_list, hx, append_list, List.append_assoc]
          congr 1
          show enc _ ++ _ = _
          rw [hb.2.1, List.take_append_drop]
      · rcases first_dec rest.data.toList (by omega) with ⟨hd, h1, h2⟩ | ⟨hd, hF, _⟩
        · have hne : rest.data.toList ≠ [] := fun h => by rw [h] at hl; simp at hl; omega
          have hvr : validD rest.data.toList = false := by rw [validD_step _ hne, if_pos ⟨congrArg Prod.fst hd, congrArg Prod.snd hd⟩]
          have hsn : ¬ validD s.data.toList = true := fun h => by have := (hsv h).2; rw [hvr] at this; cases this
          rcases h2 with ⟨a, b, c⟩ | ⟨a, b, c, d⟩
          · rw [if_pos a]
            exact goes_end (k + 1) (by omega) s t out rest hs ht (by omega) (by omega) hv (fun h => absurd h hsn)
          · rw [if_neg (by omega), if_neg (by omega), if_neg (by omega), gj1, if_neg (by simp; omega), if_neg he, if_pos (by omega), if_pos (by omega)]
            have hx : (rest.extract (firstL rest.data.toList).2.1.toNat rest.size).data.toList = rest.data.toList.drop (firstL rest.data.toList).2.1.toNat := by
              rw [toList_extract, List.take_of_length_le (by rw [List.length_drop]; omega)]
            have hxs : (rest.extract (firstL rest.data.toList).2.1.toNat rest.size).size = rest.size - (firstL rest.data.toList).2.1.toNat := by
              rw [← len_size, hx, List.length_drop, hl]
            exact goes_loop s t hs ht m _ _ k (by omega) (by omega) (by omega) hv (fun h => absurd h hsn)
        · exact absurd (by rw [hF]) he
theorem UtfGoes : backseatlaw01_UtfGoes.Pure := by
  intro a0 a1 hs ht
  refine ⟨300, ?_⟩
  unfold backseatlaw01_UtfGoes.f
  have hm : 0 ≤ mn (a0.size : Int) 100 ∧ mn (a0.size : Int) 100 ≤ a0.size ∧ mn (a0.size : Int) 100 ≤ 100 := by unfold mn; omega
  have hm1 : 0 ≤ mn (a1.size : Int) 100 ∧ mn (a1.size : Int) 100 ≤ a1.size ∧ mn (a1.size : Int) 100 ≤ 100 := by unfold mn; omega
  rw [if_pos hm.1, if_pos hm.2.1, if_pos hm1.1, if_pos hm1.2.1]
  have hx : (a0.extract 0 (mn (a0.size : Int) 100).toNat).size ≤ 100 := by rw [size_extract _ _ (by omega)]; omega
  have hx1 : (a1.extract 0 (mn (a1.size : Int) 100).toNat).size ≤ 100 := by rw [size_extract _ _ (by omega)]; omega
  generalize a0.extract 0 (mn (a0.size : Int) 100).toNat = s at hx ⊢
  generalize a1.extract 0 (mn (a1.size : Int) 100).toNat = t at hx1 ⊢
  refine goes_loop s t (by omega) (by omega) 100 _ s 300 hx (by omega) (by show 0 + 4 * s.size ≤ 100000; omega) rfl (fun h => ⟨?_, h⟩)
  exact ba_ext _ _ (by rw [append_list]; rfl)
end Go.Proofs.YthipdgnbpdngpaaDoor
