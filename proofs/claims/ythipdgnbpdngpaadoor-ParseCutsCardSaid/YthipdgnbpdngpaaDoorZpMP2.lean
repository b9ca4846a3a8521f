-- A copy of the text YthipdgnbpdngpaaDoorMP2 with what this claim does not reach left out (prune.py, a program of this project).
import Derived.Test.YthipdgnbpdngpaaDoorZpSx2
import Derived.Test.YthipdgnbpdngpaaDoorZpGFeed
namespace Go.Proofs.YthipdgnbpdngpaaDoor
open Go.RowKit Go.Proofs.YthipdgnbpdngpaaDoorW.PrintWords S
set_option linter.unusedVariables false
set_option linter.unusedSimpArgs false
/-- q, with d ahead of what is done. -/
def ahead (d : List S62) (q : S52 × List S62) : S52 × List S62 := (q.1, d ++ q.2)
def Appends (f : S52 → List S62 → S52 × List S62) : Prop := ∀ p d, f p d = ahead d (f p [])
theorem ahead_nil (p : S52) (d : List S62) : (p, d) = ahead d (p, []) := by unfold ahead; rw [List.append_nil]
theorem ends_app (p : S52) (d : List S62) (c l : Int) : endsD p d c l = d ++ endsD p [] c l := by
  unfold endsD
  split
  · rfl
  · rw [List.append_nil]
theorem inter_app (p : S52) (d : List S62) (c : Int) : interD p d c = d ++ interD p [] c := by
  unfold interD
  split
  · rw [List.append_nil]
  · exact ends_app p d c 48
theorem behind_app (p : S52) (d : List S62) (c : Int) : behindD p d c = d ++ behindD p [] c := by
  unfold behindD
  split
  · rfl
  · rw [List.append_nil]
theorem csi_app (p : S52) (d : List S62) (c : Int) : csiD p d c = d ++ csiD p [] c := by
  unfold csiD
  split
  · rfl
  · rw [List.append_nil]
theorem esc_app (p : S52) (d : List S62) (c : Int) : escR p d c = ahead d (escR p [] c) := by
  unfold escR
  repeat' split
  any_goals exact ahead_nil _ d
  unfold ahead
  rw [ends_app]
theorem osc_app (p : S52) (d : List S62) (c : Int) : oscR p d c = ahead d (oscR p [] c) := by
  unfold oscR
  repeat' split
  · rfl
  · exact ahead_nil _ d
  · exact ahead_nil _ d
theorem state_app {pend : S52 → List S62 → S52 × List S62} (hP : Appends pend) (p : S52) (d : List S62) (c : Int) : stateR pend p d c = ahead d (stateR pend p [] c) := by
  unfold stateR
  split
  · unfold groundR
    split
    · exact hP _ d
    split
    · rfl
    · exact ahead_nil _ d
  split
  · exact esc_app p d c
  split
  · show (interP p c, interD p d c) = (interP p c, d ++ interD p [] c); rw [inter_app]
  split
  · show (csiP p c, csiD p d c) = (csiP p c, d ++ csiD p [] c); rw [csi_app]
  split
  · show (behindP p c, behindD p d c) = (behindP p c, d ++ behindD p [] c); rw [behind_app]
  split
  · exact ahead_nil _ d
  split
  · exact osc_app p d c
  split
  · exact ahead_nil _ d
  · exact ahead_nil _ d
theorem take_app {pend : S52 → List S62 → S52 × List S62} (hP : Appends pend) (p : S52) (d : List S62) (c : Int) : takeR pend p d c = ahead d (takeR pend p [] c) := by
  unfold takeR
  split
  · exact hP _ d
  split
  · unfold ahead
    by_cases h : p.f0 = 6 ∨ p.f0 = 7
    · simp only [if_pos h]; rw [List.append_nil]
    · simp only [if_neg h]; rfl
  split
  · unfold ahead
    by_cases h : p.f0 = 6
    · simp only [if_pos h]; rfl
    · simp only [if_neg h]; rw [List.append_nil]
  split
  · rfl
  · exact state_app hP p d c
theorem ahead_ahead (d e : List S62) (q : S52 × List S62) : ahead d (ahead e q) = ahead (d ++ e) q := by unfold ahead; rw [List.append_assoc]
theorem run_app {pend : S52 → List S62 → S52 × List S62} (hP : Appends pend) (l : List UInt8) : ∀ (p : S52) (d : List S62), runT (takeR pend) (p, d) l = ahead d (runT (takeR pend) (p, []) l) := by
  induction l with
  | nil => intro p d; exact ahead_nil p d
  | cons b l ih =>
    intro p d
    have e : ∀ d', runT (takeR pend) (p, d') (b :: l) = runT (takeR pend) (takeR pend p d' (b.toNat : Int)) l := fun _ => rfl
    rw [e, e, take_app hP]
    generalize takeR pend p [] (b.toNat : Int) = q
    obtain ⟨p1, d1⟩ := q
    show runT (takeR pend) (p1, d ++ d1) l = ahead d (runT (takeR pend) (p1, d1) l)
    rw [ih p1 (d ++ d1), ih p1 d1, ahead_ahead]
theorem pend_app : ∀ k, Appends (pendR k) := by
  intro k
  induction k with
  | zero => intro p d; exact ahead_nil p d
  | succ k ih =>
    intro p d
    unfold pendR
    split
    · exact ahead_nil p d
    split
    · unfold ahead
      by_cases h : 160 ≤ (firstL p.f5.data.toList).1
      · simp only [if_pos h]; rfl
      · simp only [if_neg h]; rw [List.append_nil]
    · have h1 := run_app ih (p.f5.data.toList.drop (firstL p.f5.data.toList).2.1.toNat) (pendAs p ⟨#[]⟩) (d ++ [pr 65533])
      have h2 := run_app ih (p.f5.data.toList.drop (firstL p.f5.data.toList).2.1.toNat) (pendAs p ⟨#[]⟩) ([] ++ [pr 65533])
      unfold runT at h1 h2
      rw [h1, h2, ahead_ahead]
      rfl
theorem run_two (st : S52 × List S62) (a b : List UInt8) : runT (takeR (pendR 4)) st (a ++ b) = runT (takeR (pendR 4)) (runT (takeR (pendR 4)) st a) b := by unfold runT; rw [List.foldl_append]
/-- Fed in two parts. -/
theorem feed_two (p : S52) (s t : ByteArray) : feedR p (s ++ t) = ahead (feedR p s).2 (feedR (feedR p s).1 t) := by
  unfold feedR
  rw [show (s ++ t).data.toList = s.data.toList ++ t.data.toList by rw [ByteArray.data_append, Array.toList_append], run_two]
  generalize runT (takeR (pendR 4)) (p, []) s.data.toList = q
  obtain ⟨p1, d1⟩ := q
  exact run_app (pend_app 4) t.data.toList p1 d1
theorem feed_right' {p : S52} (h : rightP p) (s : ByteArray) : rightP (feedR p s).1 ∧ (feedR p s).2.length ≤ s.size + 3 := by
  obtain ⟨a, b⟩ := run_right s.data.toList (p, []) h
  have h3 := right_pend h
  rw [len_size] at b
  simp only [List.length_nil] at b
  exact ⟨a, by unfold feedR; omega⟩
theorem w64' {i : Int} (h0 : 0 ≤ i) (h1 : i ≤ 1000000000000000000) : wrap64 i = i := by unfold wrap64; omega
theorem same_loop (l : List Int) (hl : l.length ≤ 100000) : ∀ (m i k : Nat), i + m = l.length → m < k → backseatref05_same.l0 k l l (l.length : Int) (i : Int) = some true := by
  intro m
  induction m with
  | zero =>
    intro i k hi hk
    obtain ⟨k, rfl⟩ : ∃ k', k = k' + 1 := ⟨k - 1, by omega⟩
    unfold backseatref05_same.l0
    rw [if_neg (by omega)]
  | succ m ih =>
    intro i k hi hk
    obtain ⟨k, rfl⟩ : ∃ k', k = k' + 1 := ⟨k - 1, by omega⟩
    unfold backseatref05_same.l0
    rw [if_pos (by omega), if_pos (by omega), if_pos (by omega), if_pos (by omega), if_pos rfl, w64' (by omega) (by omega)]
    exact ih (i + 1) k (by omega) (by omega)
theorem same_refl (l : List Int) (k : Nat) (hl : l.length ≤ 100000) (hk : l.length < k) : backseatref05_same.f k l l = some true := by
  unfold backseatref05_same.f
  rw [if_pos rfl]
  exact same_loop l hl l.length 0 k (by omega) hk
theorem likeP_refl (p : S52) (k : Nat) (hl : p.f2.length ≤ 100000) (hk : p.f2.length < k) : backseatref05_LikeParser.f k p.f0 p.f1 p.f2 p.f3 p.f4 p.f5 p.f0 p.f1 p.f2 p.f3 p.f4 p.f5 = some true := by
  unfold backseatref05_LikeParser.f
  rw [if_pos rfl, if_pos rfl, same_refl _ k hl hk]
  simp
theorem like_refl (x : S62) (k : Nat) (hl : x.f4.length ≤ 100000) (hk : x.f4.length < k) : backseatref05_Like.f k x.f0 x.f1 x.f2 x.f3 x.f4 x.f5 x.f6 x.f0 x.f1 x.f2 x.f3 x.f4 x.f5 x.f6 = some true := by
  unfold backseatref05_Like.f
  rw [if_pos rfl, if_pos rfl, if_pos rfl, if_pos rfl, same_refl _ k hl hk]
  simp
theorem rd_mem (l : List S62) (i : Nat) (h : i < l.length) : rd_T62 l (i : Int) ∈ l := by
  unfold rd_T62
  rw [Int.toNat_natCast, List.getD_eq_getElem?_getD, List.getElem?_eq_getElem h]
  exact List.getElem_mem h
theorem Same_loop (l : List S62) (hl : l.length ≤ 100000) (hd : ∀ x ∈ l, x.f4.length ≤ 16) : ∀ (m i k : Nat), i + m = l.length → m + 20 < k → backseatref05_Same.l0 k l l (l.length : Int) (i : Int) = some true := by
  intro m
  induction m with
  | zero =>
    intro i k hi hk
    obtain ⟨k, rfl⟩ : ∃ k', k = k' + 1 := ⟨k - 1, by omega⟩
    unfold backseatref05_Same.l0
    rw [if_neg (by omega)]
  | succ m ih =>
    intro i k hi hk
    obtain ⟨k, rfl⟩ : ∃ k', k = k' + 1 := ⟨k - 1, by omega⟩
    have h16 := hd _ (rd_mem l i (by omega))
    unfold backseatref05_Same.l0
    rw [if_pos (by omega), if_pos (by omega), if_pos (by omega), if_pos (by omega), like_refl _ k (by omega) (by omega)]
    simp only [Option.bind_some, if_true]
    rw [w64' (by omega) (by omega)]
    exact ih (i + 1) k (by omega) (by omega)
theorem Same_refl (l : List S62) (k : Nat) (hl : l.length ≤ 100000) (hd : ∀ x ∈ l, x.f4.length ≤ 16) (hk : l.length + 20 < k) : backseatref05_Same.f k l l = some true := by
  unfold backseatref05_Same.f
  rw [if_pos rfl]
  exact Same_loop l hl hd l.length 0 k (by omega) hk
def fewN (d : List S62) : Prop := ∀ x ∈ d, x.f4.length ≤ 16
theorem few_add {d : List S62} {x : S62} (h : fewN d) (hx : x.f4.length ≤ 16) : fewN (d ++ [x]) := fun y hy => by
  rcases List.mem_append.1 hy with hy | hy
  · exact h y hy
  · rw [List.mem_singleton.1 hy]; exact hx
def FewOut (f : S52 → List S62 → S52 × List S62) (ok : S52 → Prop) : Prop := ∀ p d, ok p → fewN d → fewN (f p d).2
theorem disp_fewN {p : S52} {d : List S62} (c : Int) (hp : p.f2.length ≤ 16) (h : fewN d) : fewN (dispD p d c) := few_add h hp
theorem ends_fewN {p : S52} {d : List S62} (c l : Int) (h : fewN d) : fewN (endsD p d c l) := by
  unfold endsD
  split
  · exact few_add h (Nat.zero_le _)
  · exact h
theorem state_fewN {pend : S52 → List S62 → S52 × List S62} {k : Nat} (hk : 1 ≤ k) (hP : FewOut pend (fun p => rightP (pendAs p ⟨#[]⟩) ∧ p.f0 = 0 ∧ p.f5.size ≤ k)) (p : S52) (d : List S62) (c : Int) (hr : rightP p) (h : fewN d) : fewN (stateR pend p d c).2 := by
  have hp := (right_parOk hr).1
  unfold stateR
  split
  · rename_i h0
    unfold groundR
    split
    · exact hP _ d ⟨right_clr (p := p) hr, h0, by show (strOfNums [c]).size ≤ k; rw [strOfNums_size]; exact hk⟩ h
    split
    · exact few_add h (Nat.zero_le _)
    · exact h
  split
  · unfold escR
    repeat' split
    any_goals exact h
    exact ends_fewN c 48 h
  split
  · show fewN (interD p d c)
    unfold interD
    split
    · exact h
    · exact ends_fewN c 48 h
  split
  · show fewN (csiD p d c)
    unfold csiD
    split
    · exact disp_fewN c hp h
    · exact h
  split
  · show fewN (behindD p d c)
    unfold behindD
    split
    · exact disp_fewN c hp h
    · exact h
  split
  · exact h
  split
  · unfold oscR
    repeat' split
    · exact few_add h (Nat.zero_le _)
    · exact h
    · exact h
  split
  · exact h
  · exact h
theorem take_fewN {pend : S52 → List S62 → S52 × List S62} {k : Nat} (hP : FewOut pend (fun p => rightP (pendAs p ⟨#[]⟩) ∧ p.f0 = 0 ∧ p.f5.size ≤ k)) (p : S52) (d : List S62) (c : Int) (hr : rightP p) (h5 : p.f5.size + 1 ≤ k) (h : fewN d) : fewN (takeR pend p d c).2 := by
  unfold takeR
  split
  · rename_i hn
    exact hP _ d ⟨right_clr (p := p) hr, right_pend0 (p := p) hr hn, by have h9 : (pendAs p (p.f5 ++ strOfNums [c])).f5.size = p.f5.size + 1 := app_size p.f5 c; omega⟩ h
  split
  · show fewN (if p.f0 = 6 ∨ p.f0 = 7 then d else d ++ [ex c])
    split
    · exact h
    · exact few_add h (Nat.zero_le _)
  split
  · show fewN (if p.f0 = 6 then d ++ [oscDo p.f4] else d)
    split
    · exact few_add h (Nat.zero_le _)
    · exact h
  split
  · exact few_add h (Nat.zero_le _)
  · exact state_fewN (by omega) hP p d c hr h
theorem run_fewN {k : Nat} (hP : FewOut (pendR k) (fun p => rightP (pendAs p ⟨#[]⟩) ∧ p.f0 = 0 ∧ p.f5.size ≤ k)) (l : List UInt8) : ∀ (st : S52 × List S62), rightP st.1 → st.1.f5.size + l.length ≤ k → fewN st.2 → fewN (runT (takeR (pendR k)) st l).2 := by
  induction l with
  | nil => intro st _ _ h; exact h
  | cons b l ih =>
    intro st hr hk h
    simp only [List.length_cons] at hk
    obtain ⟨a1, a2, a3⟩ := take_fine (pend_fine k) st.1 st.2 (b.toNat : Int) hr (by omega)
    exact ih (takeR (pendR k) st.1 st.2 (b.toNat : Int)) a1 (by omega) (take_fewN hP st.1 st.2 _ hr (by omega) h)
theorem pend_fewN : ∀ k, FewOut (pendR k) (fun p => rightP (pendAs p ⟨#[]⟩) ∧ p.f0 = 0 ∧ p.f5.size ≤ k) := by
  intro k
  induction k with
  | zero => intro p d _ h; exact h
  | succ k ih =>
    intro p d ⟨hr, h0, hs⟩ h
    unfold pendR
    rcases firstL_err p.f5.data.toList with ⟨he, hl⟩ | ⟨he, hl⟩ | ⟨he, hl, hm⟩
    · rw [if_pos he]; exact h
    · rw [if_neg (by omega), if_pos he]
      show fewN (if 160 ≤ (firstL p.f5.data.toList).1 then d ++ [pr (firstL p.f5.data.toList).1] else d)
      split
      · exact few_add h (Nat.zero_le _)
      · exact h
    · rw [if_neg (by omega), if_neg (by omega)]
      rw [len_size] at hm
      have hlen : (p.f5.data.toList.drop (firstL p.f5.data.toList).2.1.toNat).length ≤ p.f5.size - 1 := by rw [List.length_drop, len_size]; omega
      exact run_fewN ih _ (pendAs p ⟨#[]⟩, d ++ [pr 65533]) hr (by show 0 + _ ≤ k; omega) (few_add h (Nat.zero_le _))
theorem long_fewN (l : List UInt8) : ∀ (st : S52 × List S62), rightP st.1 → fewN st.2 → fewN (runT (takeR (pendR 4)) st l).2 := by
  induction l with
  | nil => intro st _ h; exact h
  | cons b l ih =>
    intro st hr h
    have h3 := right_pend hr
    obtain ⟨a1, a2, a3⟩ := take_fine (pend_fine 4) st.1 st.2 (b.toNat : Int) hr (by omega)
    exact ih (takeR (pendR 4) st.1 st.2 (b.toNat : Int)) a1 (take_fewN (pend_fewN 4) st.1 st.2 _ hr (by omega) h)
theorem feed_fewN {p : S52} (h : rightP p) (s : ByteArray) : fewN (feedR p s).2 := long_fewN s.data.toList (p, []) h (fun x hx => by cases hx)
theorem feed_ok (p : S52) (s : ByteArray) (hs : s.size ≤ 1000000) (h : rightP p) : parse_Feed.f p.f0 p.f1 p.f2 p.f3 p.f4 p.f5 s = some (feedT (feedR p s) 0) := by
  unfold parse_Feed.f
  rw [if_pos hs]
  exact if_pos ((right_iff p).2 h)
theorem feed_no (p : S52) (s : ByteArray) (hs : s.size ≤ 1000000) (h : ¬ rightP p) : parse_Feed.f p.f0 p.f1 p.f2 p.f3 p.f4 p.f5 s = some (feedT (toF 0, []) 1) := by
  unfold parse_Feed.f
  rw [if_pos hs]
  exact if_neg (fun e => h ((right_iff p).1 e))
theorem feed_or (p : S52) (s : ByteArray) (hs : s.size ≤ 1000000) : (rightP p ∧ parse_Feed.f p.f0 p.f1 p.f2 p.f3 p.f4 p.f5 s = some (feedT (feedR p s) 0)) ∨ (parse_Feed.f p.f0 p.f1 p.f2 p.f3 p.f4 p.f5 s = some (feedT (toF 0, []) 1)) := by
  by_cases h : rightP p
  · exact .inl ⟨h, feed_ok p s hs h⟩
  · exact .inr (feed_no p s hs h)
theorem right_go (p : S52) (h : rightP p) : parse_Right.f p.f0 p.f1 p.f2 p.f3 p.f4 p.f5 = some true := by
  unfold parse_Right.f
  exact congrArg some ((right_iff p).2 h)
theorem alive_run : feedR (toF 0) ⟨#[27, 91, 49, 59, 51, 49, 109, 65]⟩ = (toF 0, [⟨4, 0, 109, 0, [1, 31], 0, ⟨#[]⟩⟩, pr 65]) := by kernel_rfl
theorem alive_go5 : backseatlaw05_alive.f = some true := by
  unfold backseatlaw05_alive.f
  rw [show parse_Feed.f 0 0 ([] : List Int) 0 (⟨#[]⟩ : ByteArray) (⟨#[]⟩ : ByteArray) (⟨#[27, 91, 49, 59, 51, 49, 109, 65]⟩ : ByteArray) = some (feedT (feedR (toF 0) ⟨#[27, 91, 49, 59, 51, 49, 109, 65]⟩) 0) from feed_ok (toF 0) _ (by decide) (right_to 0 (.inl rfl)), alive_run]
  rfl
theorem mn_le (n : Nat) (m : Int) (h : 0 ≤ m) : 0 ≤ mn (n : Int) m ∧ mn (n : Int) m ≤ n ∧ mn (n : Int) m ≤ m := by unfold mn; omega
theorem cut_size (s : ByteArray) (m : Int) (h : 0 ≤ m) : (s.extract 0 (mn (s.size : Int) m).toNat).size ≤ m.toNat := by
  have := mn_le s.size m h
  rw [ByteArray.size_extract]
  omega
theorem few_go (p : S52) : ∃ q : S52, backseatlaw05_few.f p.f0 p.f1 p.f2 p.f3 p.f4 p.f5 = some (q.f0, q.f1, q.f2, q.f3, q.f4, q.f5) := by
  have h1 := mn_le p.f2.length 18 (by omega)
  have h2 := mn_le p.f4.size 66 (by omega)
  have h3 := mn_le p.f5.size 6 (by omega)
  unfold backseatlaw05_few.f
  rw [if_pos h1.1, if_pos h1.2.1, if_pos h2.1, if_pos h2.2.1, if_pos h3.1, if_pos h3.2.1]
  exact ⟨⟨p.f0, p.f1, p.f2.take (mn (p.f2.length : Int) 18).toNat, p.f3, p.f4.extract 0 (mn (p.f4.size : Int) 66).toNat, p.f5.extract 0 (mn (p.f5.size : Int) 6).toNat⟩, rfl⟩
end Go.Proofs.YthipdgnbpdngpaaDoor
