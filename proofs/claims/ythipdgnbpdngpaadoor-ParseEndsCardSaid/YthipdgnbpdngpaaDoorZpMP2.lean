-- A copy of the text YthipdgnbpdngpaaDoorMP2 with what this claim does not reach left out (prune.py, a program of this project).
import Derived.Test.YthipdgnbpdngpaaDoorZpSx2
import Derived.Test.YthipdgnbpdngpaaDoorZpGFeed
namespace Go.Proofs.YthipdgnbpdngpaaDoor
open Go.RowKit Go.Proofs.YthipdgnbpdngpaaDoorW.PrintWords S
set_option linter.unusedVariables false
set_option linter.unusedSimpArgs false
/-- q, with d ahead of what is done. -/
def ahead (d : List S62) (q : S52 × List S62) : S52 × List S62 := (q.1, d ++ q.2)
theorem feed_right' {p : S52} (h : rightP p) (s : ByteArray) : rightP (feedR p s).1 ∧ (feedR p s).2.length ≤ s.size + 3 := by
  obtain ⟨a, b⟩ := run_right s.data.toList (p, []) h
  have h3 := right_pend h
  rw [len_size] at b
  simp only [List.length_nil] at b
  exact ⟨a, by unfold feedR; omega⟩
theorem w64' {i : Int} (h0 : 0 ≤ i) (h1 : i ≤ 1000000000000000000) : wrap64 i = i := by unfold wrap64; omega
theorem same_loop (l : List Int) (hl : l.length ≤ 100000) : ∀ (m i k : Nat), i + m = l.length → m < k → backseatref05_same.l0 k l l (l.length : Int) (i : Int) = some true := by
  intro m
  induction m with
  | zero =>
    intro i k hi hk
    obtain ⟨k, rfl⟩ : ∃ k', k = k' + 1 := ⟨k - 1, by omega⟩
    unfold backseatref05_same.l0
    rw [if_neg (by omega)]
  | succ m ih =>
    intro i k hi hk
    obtain ⟨k, rfl⟩ : ∃ k', k = k' + 1 := ⟨k - 1, by omega⟩
    unfold backseatref05_same.l0
    rw [if_pos (by omega), if_pos (by omega), if_pos (by omega), if_pos (by omega), if_pos rfl, w64' (by omega) (by omega)]
    exact ih (i + 1) k (by omega) (by omega)
theorem same_refl (l : List Int) (k : Nat) (hl : l.length ≤ 100000) (hk : l.length < k) : backseatref05_same.f k l l = some true := by
  unfold backseatref05_same.f
  rw [if_pos rfl]
  exact same_loop l hl l.length 0 k (by omega) hk
theorem likeP_refl (p : S52) (k : Nat) (hl : p.f2.length ≤ 100000) (hk : p.f2.length < k) : backseatref05_LikeParser.f k p.f0 p.f1 p.f2 p.f3 p.f4 p.f5 p.f0 p.f1 p.f2 p.f3 p.f4 p.f5 = some true := by
  unfold backseatref05_LikeParser.f
  rw [if_pos rfl, if_pos rfl, same_refl _ k hl hk]
  simp
theorem feed_ok (p : S52) (s : ByteArray) (hs : s.size ≤ 1000000) (h : rightP p) : parse_Feed.f p.f0 p.f1 p.f2 p.f3 p.f4 p.f5 s = some (feedT (feedR p s) 0) := by
  unfold parse_Feed.f
  rw [if_pos hs]
  exact if_pos ((right_iff p).2 h)
theorem feed_no (p : S52) (s : ByteArray) (hs : s.size ≤ 1000000) (h : ¬ rightP p) : parse_Feed.f p.f0 p.f1 p.f2 p.f3 p.f4 p.f5 s = some (feedT (toF 0, []) 1) := by
  unfold parse_Feed.f
  rw [if_pos hs]
  exact if_neg (fun e => h ((right_iff p).1 e))
theorem feed_or (p : S52) (s : ByteArray) (hs : s.size ≤ 1000000) : (rightP p ∧ parse_Feed.f p.f0 p.f1 p.f2 p.f3 p.f4 p.f5 s = some (feedT (feedR p s) 0)) ∨ (parse_Feed.f p.f0 p.f1 p.f2 p.f3 p.f4 p.f5 s = some (feedT (toF 0, []) 1)) := by
  by_cases h : rightP p
  · exact .inl ⟨h, feed_ok p s hs h⟩
  · exact .inr (feed_no p s hs h)
theorem alive_run : feedR (toF 0) ⟨#[27, 91, 49, 59, 51, 49, 109, 65]⟩ = (toF 0, [⟨4, 0, 109, 0, [1, 31], 0, ⟨#[]⟩⟩, pr 65]) := by kernel_rfl
theorem alive_go5 : backseatlaw05_alive.f = some true := by
  unfold backseatlaw05_alive.f
  rw [show parse_Feed.f 0 0 ([] : List Int) 0 (⟨#[]⟩ : ByteArray) (⟨#[]⟩ : ByteArray) (⟨#[27, 91, 49, 59, 51, 49, 109, 65]⟩ : ByteArray) = some (feedT (feedR (toF 0) ⟨#[27, 91, 49, 59, 51, 49, 109, 65]⟩) 0) from feed_ok (toF 0) _ (by decide) (right_to 0 (.inl rfl)), alive_run]
  rfl
theorem mn_le (n : Nat) (m : Int) (h : 0 ≤ m) : 0 ≤ mn (n : Int) m ∧ mn (n : Int) m ≤ n ∧ mn (n : Int) m ≤ m := by unfold mn; omega
theorem cut_size (s : ByteArray) (m : Int) (h : 0 ≤ m) : (s.extract 0 (mn (s.size : Int) m).toNat).size ≤ m.toNat := by
  have := mn_le s.size m h
  rw [ByteArray.size_extract]
  omega
theorem few_go (p : S52) : ∃ q : S52, backseatlaw05_few.f p.f0 p.f1 p.f2 p.f3 p.f4 p.f5 = some (q.f0, q.f1, q.f2, q.f3, q.f4, q.f5) := by
  have h1 := mn_le p.f2.length 18 (by omega)
  have h2 := mn_le p.f4.size 66 (by omega)
  have h3 := mn_le p.f5.size 6 (by omega)
  unfold backseatlaw05_few.f
  rw [if_pos h1.1, if_pos h1.2.1, if_pos h2.1, if_pos h2.2.1, if_pos h3.1, if_pos h3.2.1]
  exact ⟨⟨p.f0, p.f1, p.f2.take (mn (p.f2.length : Int) 18).toNat, p.f3, p.f4.extract 0 (mn (p.f4.size : Int) 66).toNat, p.f5.extract 0 (mn (p.f5.size : Int) 6).toNat⟩, rfl⟩
end Go.Proofs.YthipdgnbpdngpaaDoor
