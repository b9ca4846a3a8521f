-- A copy of the text YthipdgnbpdngpaaDoorMP5 with what this claim does not reach left out (prune.py, a program of this project).
import Derived.Test.YthipdgnbpdngpaaDoorZpGBytes
import Derived.Test.YthipdgnbpdngpaaDoorZpMWrite
namespace Go.Proofs.YthipdgnbpdngpaaDoor
open Go.RowKit Go.Proofs.YthipdgnbpdngpaaDoorW.PrintWords S
set_option linter.unusedVariables false
set_option linter.unusedSimpArgs false
theorem equal_same : ∀ (k : Nat) (a b : List Int) (n i : Int), slices_Equal_int_int.l0 k a b n i = backseatref05_same.l0 k a b n i := by
  intro k
  induction k with
  | zero => intro a b n i; rfl
  | succ k ih =>
    intro a b n i
    simp only [slices_Equal_int_int.l0, backseatref05_same.l0, ih]
theorem like_same (k : Nat) (a b : S62) : parse_Like.f k a.f0 a.f1 a.f2 a.f3 a.f4 a.f5 a.f6 b.f0 b.f1 b.f2 b.f3 b.f4 b.f5 b.f6 = backseatref05_Like.f k a.f0 a.f1 a.f2 a.f3 a.f4 a.f5 a.f6 b.f0 b.f1 b.f2 b.f3 b.f4 b.f5 b.f6 := by
  unfold parse_Like.f backseatref05_Like.f slices_Equal_int_int.f backseatref05_same.f
  simp only [equal_same]
theorem same_total (a b : List Int) (hl : a.length = b.length) (ha : a.length ≤ 100000) : ∀ (m i k : Nat), i + m = a.length → m < k → ∃ r, backseatref05_same.l0 k a b (a.length : Int) (i : Int) = some r := by
  intro m
  induction m with
  | zero =>
    intro i k hi hk
    obtain ⟨k, rfl⟩ : ∃ k', k = k' + 1 := ⟨k - 1, by omega⟩
    unfold backseatref05_same.l0
    rw [if_neg (by omega)]
    exact ⟨_, rfl⟩
  | succ m ih =>
    intro i k hi hk
    obtain ⟨k, rfl⟩ : ∃ k', k = k' + 1 := ⟨k - 1, by omega⟩
    unfold backseatref05_same.l0
    rw [if_pos (by omega), if_pos (by omega), if_pos (by omega), if_pos (by omega)]
    split
    · rw [w64' (by omega) (by omega)]
      exact ih (i + 1) k (by omega) (by omega)
    · exact ⟨_, rfl⟩
theorem like_total (k : Nat) (a b : S62) (ha : a.f4.length ≤ 18) (hk : 20 < k) : ∃ r, backseatref05_Like.f k a.f0 a.f1 a.f2 a.f3 a.f4 a.f5 a.f6 b.f0 b.f1 b.f2 b.f3 b.f4 b.f5 b.f6 = some r := by
  unfold backseatref05_Like.f backseatref05_same.f
  split
  · split
    · split
      · split
        · split
          · rename_i hl
            obtain ⟨r, hr⟩ := same_total a.f4 b.f4 (by omega) (by omega) a.f4.length 0 k (by omega) (by omega)
            have hr' : backseatref05_same.l0 k a.f4 b.f4 (a.f4.length : Int) 0 = some r := hr
            rw [hr']
            simp only [Option.bind_some]
            split
            · split <;> exact ⟨_, rfl⟩
            · exact ⟨_, rfl⟩
          · simp only [Option.bind_some]
            rw [if_neg Bool.false_ne_true]
            exact ⟨_, rfl⟩
        · exact ⟨_, rfl⟩
      · exact ⟨_, rfl⟩
    · exact ⟨_, rfl⟩
  · exact ⟨_, rfl⟩
theorem cut_go (x : S62) : ∃ y : S62, backseatlaw05_cut.f x.f0 x.f1 x.f2 x.f3 x.f4 x.f5 x.f6 = some (y.f0, y.f1, y.f2, y.f3, y.f4, y.f5, y.f6) ∧ y.f4.length ≤ 18 := by
  have h1 := mn_le x.f4.length 18 (by omega)
  have h2 := mn_le x.f6.size 66 (by omega)
  unfold backseatlaw05_cut.f
  rw [if_pos h1.1, if_pos h1.2.1, if_pos h2.1, if_pos h2.2.1]
  refine ⟨⟨x.f0, x.f1, x.f2, x.f3, x.f4.take (mn (x.f4.length : Int) 18).toNat, x.f5, x.f6.extract 0 (mn (x.f6.size : Int) 66).toNat⟩, rfl, ?_⟩
  show (x.f4.take (mn (x.f4.length : Int) 18).toNat).length ≤ 18
  rw [List.length_take]
  omega
theorem text_l0 : ∀ (k : Nat) (a b : Int) (l : List Int) (i : Int), S.backseatref01_Text.l0 k a b l i = Go.Proofs.YthipdgnbpdngpaaDoor.P.backseatref01_Text.l0 k a b l i := by
  intro k
  induction k with
  | zero => intro a b l i; rfl
  | succ k ih =>
    intro a b l i
    simp only [S.backseatref01_Text.l0, Go.Proofs.YthipdgnbpdngpaaDoor.P.backseatref01_Text.l0, ih]
theorem text_s (r : Int) (hv : Lib.validRune r = true) (k : Nat) (hk : 10 ≤ k) : S.backseatref01_Text.f k r = some (Utf8.encode r) := by
  rw [← text_ref r hv k hk]
  unfold S.backseatref01_Text.f Go.Proofs.YthipdgnbpdngpaaDoor.P.backseatref01_Text.f
  simp only [text_l0]
  rfl
theorem is_s (r : Int) : S.backseatref01_Is.f r = some (Lib.validRune r) := by
  unfold S.backseatref01_Is.f
  have h := valid_iff r
  split
  · split
    · split
      · rw [h.2 (by omega)]
      · rename_i a b c
        by_cases hx : r > 57343
        · rw [h.2 (by omega), decide_eq_true hx]
        · rw [decide_eq_false hx]
          cases hv : Lib.validRune r with
          | false => rfl
          | true => have := h.1 hv; omega
    · cases hv : Lib.validRune r with
      | false => rfl
      | true => have := h.1 hv; omega
  · cases hv : Lib.validRune r with
    | false => rfl
    | true => have := h.1 hv; omega
/-- A letter that is sent. -/
def Sent (r : Int) : Prop := Lib.validRune r = true ∧ (160 ≤ r ∨ (32 ≤ r ∧ r < 127))
theorem low_run (r : Int) (h : 32 ≤ r ∧ r < 127) (d : List S62) : takeR (pendR 4) (toF 0) d r = (toF 0, d ++ [pr r]) := by
  unfold takeR
  rw [if_neg (by decide), if_neg (by omega), if_neg (by omega), if_neg (fun hh => by omega)]
  unfold stateR
  rw [if_pos (show (toF 0).f0 = 0 from rfl)]
  unfold groundR
  rw [if_neg (by omega), if_pos (by omega)]
def pendS (s : ByteArray) : S52 := pendAs (toF 0) s
theorem pend_short (k : Nat) (s : ByteArray) (d : List S62) (h : (firstL s.data.toList).2.2 = 2) : pendR (k + 1) (pendS s) d = (pendS s, d) := by
  unfold pendR
  exact if_pos h
theorem pend_full (k : Nat) (s : ByteArray) (d : List S62) (r n : Int) (h : firstL s.data.toList = (r, n, 0)) (hr : 160 ≤ r) : pendR (k + 1) (pendS s) d = (toF 0, d ++ [pr r]) := by
  unfold pendR
  have hs : (pendS s).f5 = s := rfl
  rw [hs, h, if_neg (show ¬ (0 : Int) = 2 by decide), if_pos rfl, if_pos hr]
  rfl
theorem one_str (b : UInt8) : strOfNums [(b.toNat : Int)] = ⟨#[b]⟩ := by
  unfold strOfNums
  simp
theorem add_str (l : List UInt8) (b : UInt8) : (⟨l.toArray⟩ : ByteArray) ++ strOfNums [(b.toNat : Int)] = ⟨(l ++ [b]).toArray⟩ := by
  rw [one_str]
  exact ByteArray.ext (by rw [ByteArray.data_append]; simp)
/-- The bytes of a letter from 160 on, one behind the other. -/
theorem high_run (r : Int) (hv : Lib.validRune r = true) (hr : 160 ≤ r) (d : List S62) : ∀ (m j : Nat), 1 ≤ j → j + m = (enc r).length → 1 ≤ m →
    runT (takeR (pendR 4)) (pendS ⟨((enc r).take j).toArray⟩, d) ((enc r).drop j) = (toF 0, d ++ [pr r]) := by
  intro m
  induction m with
  | zero => intro j _ _ h; omega
  | succ m ih =>
    intro j hj hjm _
    have hjl : j < (enc r).length := by omega
    rw [List.drop_eq_getElem_cons hjl]
    have hsz : ((pendS ⟨((enc r).take j).toArray⟩).f5).size ≠ 0 := by
      show (((enc r).take j).toArray).size ≠ 0
      rw [List.size_toArray, List.length_take]
      omega
    have hstep : takeR (pendR 4) (pendS ⟨((enc r).take j).toArray⟩) d (((enc r)[j]).toNat : Int) = pendR 4 (pendS ⟨((enc r).take (j + 1)).toArray⟩) d := by
      unfold takeR
      rw [if_pos hsz]
      show pendR 4 (pendS ((⟨((enc r).take j).toArray⟩ : ByteArray) ++ strOfNums [(((enc r)[j]).toNat : Int)])) d = _
      rw [add_str, List.take_succ_eq_append_getElem hjl]
    have e : runT (takeR (pendR 4)) (pendS ⟨((enc r).take j).toArray⟩, d) ((enc r)[j] :: (enc r).drop (j + 1)) = runT (takeR (pendR 4)) (takeR (pendR 4) (pendS ⟨((enc r).take j).toArray⟩) d (((enc r)[j]).toNat : Int)) ((enc r).drop (j + 1)) := rfl
    rw [e, hstep]
    by_cases hm : m = 0
    · have hfull : (enc r).take (j + 1) = enc r := List.take_of_length_le (by omega)
      have hf := first_enc r hv []
      rw [List.append_nil] at hf
      rw [hfull, show pendR 4 (pendS ⟨(enc r).toArray⟩) d = (toF 0, d ++ [pr r]) from pend_full 3 ⟨(enc r).toArray⟩ d r _ hf hr, List.drop_eq_nil_of_le (by omega)]
      rfl
    · have hs := first_short r hv (j + 1) (by omega)
      rw [show pendR 4 (pendS ⟨((enc r).take (j + 1)).toArray⟩) d = (pendS ⟨((enc r).take (j + 1)).toArray⟩, d) from pend_short 3 ⟨((enc r).take (j + 1)).toArray⟩ d (by show (firstL ((enc r).take (j + 1))).2.2 = 2; rw [hs])]
      exact ih (j + 1) (by omega) (by omega) (by omega)
theorem enc_high (r : Int) (hv : Lib.validRune r = true) (hr : 160 ≤ r) : ∃ b l, enc r = b :: l ∧ 128 ≤ (b.toNat : Int) ∧ 2 ≤ (enc r).length := by
  have hb : ∀ n : Nat, 128 ≤ n → n < 256 → 128 ≤ ((UInt8.ofNat n).toNat : Int) := fun n h1 h2 => by rw [ofNat_b n h2]; omega
  have hx := (valid_iff r).1 hv
  by_cases h1 : r < 2048
  · rw [enc2 r (by omega) h1]; exact ⟨_, _, rfl, hb _ (by omega) (by omega), by simp⟩
  by_cases h2 : r < 65536
  · rw [enc3 r hv (by omega) h2]; exact ⟨_, _, rfl, hb _ (by omega) (by omega), by simp⟩
  · rw [enc4 r hv (by omega)]; exact ⟨_, _, rfl, hb _ (by omega) (by omega), by simp⟩
theorem letter_run (r : Int) (h : Sent r) (d : List S62) : runT (takeR (pendR 4)) (toF 0, d) (enc r) = (toF 0, d ++ [pr r]) := by
  obtain ⟨hv, h160 | h32⟩ := h
  · obtain ⟨b, l, he, hb, hl⟩ := enc_high r hv h160
    have h1 : (enc r).take 1 = [b] := by rw [he]; rfl
    have hd : (enc r).drop 1 = l := by rw [he]; rfl
    have hrun := high_run r hv h160 d ((enc r).length - 1) 1 (by omega) (by omega) (by omega)
    rw [h1, hd] at hrun
    have hs := first_short r hv 1 (by omega)
    rw [h1] at hs
    have hbl := b.toNat_lt
    have hstep : takeR (pendR 4) (toF 0) d (b.toNat : Int) = (pendS ⟨[b].toArray⟩, d) := by
      unfold takeR
      rw [if_neg (by decide), if_neg (by omega), if_neg (by omega), if_neg (fun hh => by omega)]
      unfold stateR
      rw [if_pos (show (toF 0).f0 = 0 from rfl)]
      unfold groundR
      rw [if_pos hb]
      show pendR 4 (pendS (strOfNums [(b.toNat : Int)])) d = _
      rw [one_str]
      exact pend_short 3 _ d (by show (firstL [b]).2.2 = 2; rw [hs])
    have e : runT (takeR (pendR 4)) (toF 0, d) (enc r) = runT (takeR (pendR 4)) (takeR (pendR 4) (toF 0) d (b.toNat : Int)) l := by rw [he]; rfl
    rw [e, hstep]
    exact hrun
  · have he : enc r = [UInt8.ofNat r.toNat] := enc1 r (by omega) (by omega)
    rw [he]
    have e : runT (takeR (pendR 4)) (toF 0, d) [UInt8.ofNat r.toNat] = takeR (pendR 4) (toF 0) d (((UInt8.ofNat r.toNat).toNat : Nat) : Int) := rfl
    rw [e, ofNat_b r.toNat (by omega), show ((r.toNat : Nat) : Int) = r by omega]
    exact low_run r h32 d
/-- What was sent, and its bytes. -/
def SentS (s : ByteArray) (l : List Int) : Prop := feedR (toF 0) s = (toF 0, l.map pr)
theorem sent_nil : SentS ⟨#[]⟩ [] := rfl
theorem sent_add {s : ByteArray} {l : List Int} (h : SentS s l) (r : Int) (hr : Sent r) : SentS (s ++ Utf8.encode r) (l ++ [r]) := by
  unfold SentS at h ⊢
  rw [feed_two, h]
  have hx : feedR (toF 0) (Utf8.encode r) = (toF 0, [] ++ [pr r]) := letter_run r hr []
  simp only [hx]
  unfold ahead
  rw [List.map_append]
  rfl
theorem rd_prs (l : List Int) (i : Nat) (h : i < l.length) : rd_T62 (l.map pr) (i : Int) = pr (rd l (i : Int)) := by
  unfold rd_T62 rd
  rw [Int.toNat_natCast, List.getD_eq_getElem?_getD, List.getD_eq_getElem?_getD, List.getElem?_map, List.getElem?_eq_getElem h]
  rfl
theorem likeP_to (k : Nat) (hk : 1 ≤ k) : backseatref05_LikeParser.f k (toF 0).f0 (toF 0).f1 (toF 0).f2 (toF 0).f3 (toF 0).f4 (toF 0).f5 0 0 ([] : List Int) 0 (⟨#[]⟩ : ByteArray) (⟨#[]⟩ : ByteArray) = some true := likeP_refl (toF 0) k (by decide) (by show 0 < k; omega)
theorem ctl_mod (c : Int) : 0 ≤ Int.tmod (wrap64 (Int.tmod c 24 + 24)) 24 ∧ Int.tmod (wrap64 (Int.tmod c 24 + 24)) 24 < 24 := by
  have h1 : Int.tmod c 24 < 24 := Int.tmod_lt_of_pos c (by decide)
  have h2 : -24 < Int.tmod c 24 := by
    have := Int.tmod_lt_of_pos (-c) (show (0 : Int) < 24 by decide)
    rw [Int.neg_tmod] at this
    omega
  rw [w64' (by omega) (by omega), Int.tmod_eq_emod_of_nonneg (by omega)]
  omega
theorem ctl_run (m : Int) (h0 : 0 ≤ m) (h1 : m < 24) : feedR (toF 0) (strOfNums [m % 256]) = (toF 0, [ex m]) := by
  rw [show m % 256 = m by omega]
  have e : feedR (toF 0) (strOfNums [m]) = takeR (pendR 4) (toF 0) [] (((UInt8.ofNat m.toNat).toNat : Nat) : Int) := rfl
  rw [e, ofNat_b m.toNat (by omega), show ((m.toNat : Nat) : Int) = m by omega]
  unfold takeR
  rw [if_neg (by decide), if_neg (by omega), if_neg (by omega), if_pos ⟨by omega, by decide, by decide⟩]
  rfl
theorem letters_l1 (c : Int) (l : List Int) (hl : l.length ≤ 1000) : ∀ (m i k : Nat), i + m = l.length → m + 40 < k → backseatlaw05_ParseLetters.l1 k c l (l.map pr) ((l.map pr).length : Int) (i : Int) = some true := by
  intro m
  induction m with
  | zero =>
    intro i k hi hk
    obtain ⟨k, rfl⟩ : ∃ k', k = k' + 1 := ⟨k - 1, by omega⟩
    have hm := ctl_mod c
    simp only [backseatlaw05_ParseLetters.l1]
    rw [if_neg (by rw [List.length_map]; omega)]
    generalize Int.tmod (wrap64 (Int.tmod c 24 + 24)) 24 = q at hm ⊢
    rw [show parse_Feed.f 0 0 ([] : List Int) 0 (⟨#[]⟩ : ByteArray) (⟨#[]⟩ : ByteArray) (strOfNums [q % 256]) = some (feedT (feedR (toF 0) (strOfNums [q % 256])) 0) from feed_ok (toF 0) _ (by rw [strOfNums_size]; simp) (right_to 0 (.inl rfl)), ctl_run q hm.1 hm.2]
    simp only [Option.bind_some, feedT, if_true]
    rw [likeP_to k (by omega)]
    simp only [Option.bind_some, if_true]
    have h1 : (([ex q] : List S62).length : Int) = 1 := rfl
    rw [if_pos h1, if_pos (by rw [h1]; decide)]
    have hx : rd_T62 [ex q] 0 = ex q := rfl
    rw [hx]
    have hlk := like_refl (ex q) k (by show 0 ≤ 100000; omega) (by show 0 < k; omega)
    rw [show backseatref05_Like.f k (ex q).f0 (ex q).f1 (ex q).f2 (ex q).f3 (ex q).f4 (ex q).f5 (ex q).f6 2 0 q 0 ([] : List Int) 0 (⟨#[]⟩ : ByteArray) = some true from hlk]
    rfl
  | succ m ih =>
    intro i k hi hk
    obtain ⟨k, rfl⟩ : ∃ k', k = k' + 1 := ⟨k - 1, by omega⟩
    have hml : (l.map pr).length = l.length := List.length_map ..
    simp only [backseatlaw05_ParseLetters.l1]
    rw [if_pos (by omega), if_pos (by omega), if_pos (by omega), if_pos (by omega), rd_prs l i (by omega)]
    have hlk := like_refl (pr (rd l (i : Int))) k (by show 0 ≤ 100000; omega) (by show 0 < k; omega)
    rw [show backseatref05_Like.f k (pr (rd l (i : Int))).f0 (pr (rd l (i : Int))).f1 (pr (rd l (i : Int))).f2 (pr (rd l (i : Int))).f3 (pr (rd l (i : Int))).f4 (pr (rd l (i : Int))).f5 (pr (rd l (i : Int))).f6 1 (rd l (i : Int)) 0 0 ([] : List Int) 0 (⟨#[]⟩ : ByteArray) = some true from hlk]
    simp only [Option.bind_some, if_true]
    rw [w64' (by omega) (by omega)]
    exact ih (i + 1) k (by omega) (by omega)
theorem letters_l0 (c : Int) (x : List Int) (hx : x.length ≤ 9223372036854775807) : ∀ (m i k : Nat) (s : ByteArray) (l : List Int), i + m = x.length → m + 200 < k → SentS s l → s.size ≤ 4 * l.length → l.length ≤ i → l.length ≤ 30 →
    backseatlaw05_ParseLetters.l0 k c s l x (x.length : Int) (i : Int) = some true := by
  intro m
  induction m with
  | zero =>
    intro i k s l hi hk hS hs hli hl
    obtain ⟨k, rfl⟩ : ∃ k', k = k' + 1 := ⟨k - 1, by omega⟩
    simp only [backseatlaw05_ParseLetters.l0]
    rw [if_neg (by omega)]
    rw [show parse_Feed.f 0 0 ([] : List Int) 0 (⟨#[]⟩ : ByteArray) (⟨#[]⟩ : ByteArray) s = some (feedT (feedR (toF 0) s) 0) from feed_ok (toF 0) _ (by omega) (right_to 0 (.inl rfl)), show feedR (toF 0) s = (toF 0, l.map pr) from hS]
    simp only [Option.bind_some, feedT, if_true]
    rw [likeP_to k (by omega)]
    simp only [Option.bind_some, if_true]
    rw [show (((l.map pr).length : Int) != (l.length : Int)) = false by rw [List.length_map]; simp]
    obtain ⟨k, rfl⟩ : ∃ k', k = k' + 1 := ⟨k - 1, by omega⟩
    simp only [backseatlaw05_ParseLetters.j2]
    rw [if_neg Bool.false_ne_true]
    exact letters_l1 c l (by omega) l.length 0 k (by omega) (by omega)
  | succ m ih =>
    intro i k s l hi hk hS hs hli hl
    obtain ⟨k, rfl⟩ : ∃ k', k = k' + 1 := ⟨k - 1, by omega⟩
    have hw : wrap64 ((i : Int) + 1) = ((i + 1 : Nat) : Int) := by unfold wrap64; omega
    simp only [backseatlaw05_ParseLetters.l0]
    rw [if_pos (by omega), if_pos (by omega), if_pos (by omega), hw]
    have skip := ih (i + 1) k s l (by omega) (by omega) hS hs (by omega) hl
    generalize rd x (i : Int) = r
    by_cases h30 : (i : Int) < 30
    · rw [if_pos h30, is_s]
      simp only [Option.bind_some]
      cases hv : Lib.validRune r with
      | false => rw [if_neg Bool.false_ne_true]; exact skip
      | true =>
        rw [if_pos rfl]
        have he := enc_len r hv
        rw [← enc_size] at he
        have go : ∀ (hs' : Sent r), backseatlaw05_ParseLetters.l0 k c (s ++ Utf8.encode r) (l ++ [r]) x (x.length : Int) ((i + 1 : Nat) : Int) = some true := fun hs' =>
          ih (i + 1) k _ _ (by omega) (by omega) (sent_add hS r hs') (by rw [ByteArray.size_append, List.length_append, List.length_singleton]; omega) (by rw [List.length_append, List.length_singleton]; omega) (by rw [List.length_append, List.length_singleton]; omega)
        by_cases h160 : r ≥ 160
        · rw [if_pos h160, text_s r hv k (by omega)]
          simp only [Option.bind_some]
          rw [if_pos (by omega), if_pos (by omega)]
          exact go ⟨hv, .inl h160⟩
        · rw [if_neg h160]
          by_cases h32 : r ≥ 32
          · rw [if_pos h32]
            by_cases h127 : r < 127
            · rw [if_pos h127, text_s r hv k (by omega)]
              simp only [Option.bind_some]
              rw [if_pos (by omega), if_pos (by omega)]
              exact go ⟨hv, .inr ⟨h32, h127⟩⟩
            · rw [if_neg h127]; exact skip
          · rw [if_neg h32]; exact skip
    · rw [if_neg h30]; exact skip
theorem ParseLetters (x : List Int) (hx : x.length ≤ 9223372036854775807) (c : Int) (a b : S62) : backseatlaw05_ParseLetters.f (x.length + 1000) x c a.f0 a.f1 a.f2 a.f3 a.f4 a.f5 a.f6 b.f0 b.f1 b.f2 b.f3 b.f4 b.f5 b.f6 = some true := by
  obtain ⟨a', ha, ha4⟩ := cut_go a
  obtain ⟨b', hb, hb4⟩ := cut_go b
  obtain ⟨t, ht⟩ := like_total (x.length + 1000) a' b' ha4 (by omega)
  unfold backseatlaw05_ParseLetters.f
  rw [ha, hb]
  simp only [Option.bind_some]
  rw [like_same, ht, like_same, like_refl a' _ (by omega) (by omega)]
  simp only [Option.bind_some, bne_self_eq_false, if_true]
  rw [if_neg Bool.false_ne_true, alive_go5]
  simp only [Option.bind_some, Bool.not_true]
  show backseatlaw05_ParseLetters.j0 (x.length + 999 + 1) x c false = some true
  simp only [backseatlaw05_ParseLetters.j0]
  rw [if_neg Bool.false_ne_true]
  exact letters_l0 c x hx x.length 0 (x.length + 999) ⟨#[]⟩ [] (by omega) (by omega) sent_nil (by show 0 ≤ 0; omega) (Nat.zero_le _) (Nat.zero_le _)
end Go.Proofs.YthipdgnbpdngpaaDoor
