-- A copy of the text YthipdgnbpdngpaaDoorMP3 with what this claim does not reach left out (prune.py, a program of this project).
import Derived.Test.YthipdgnbpdngpaaDoorZpSx3
import Derived.Test.YthipdgnbpdngpaaDoorZpMP2
namespace Go.Proofs.YthipdgnbpdngpaaDoor
open Go.RowKit Go.Proofs.YthipdgnbpdngpaaDoorW.PrintWords S
set_option linter.unusedVariables false
set_option linter.unusedSimpArgs false
theorem cuts_j0 (k : Nat) (hk : 1100 ≤ k) (x y : List S62) (p : S52) (hx : x.length ≤ 500) (hy : y.length ≤ 500) (fx : fewN x) (fy : fewN y) (hp : p.f2.length ≤ 16) :
    backseatlaw05_ParseCuts.j0 (k + 1) x y (x ++ y) false p.f0 p.f1 p.f2 p.f3 p.f4 p.f5 p.f0 p.f1 p.f2 p.f3 p.f4 p.f5 = some true := by
  simp only [backseatlaw05_ParseCuts.j0]
  rw [if_neg Bool.false_ne_true, alive_go5]
  simp only [Option.bind_some, if_true]
  rw [likeP_refl p k (by omega) (by omega)]
  simp only [Option.bind_some, if_true, List.nil_append, List.length_nil]
  rw [if_pos (by omega), if_pos (by omega)]
  have hf : fewN (x ++ y) := fun z hz => (List.mem_append.1 hz).elim (fx z) (fy z)
  rw [Same_refl (x ++ y) k (by rw [List.length_append]; omega) hf (by rw [List.length_append]; omega)]
  rfl
theorem ParseCuts (p : S52) (a1 a2 : ByteArray) : backseatlaw05_ParseCuts.f 1200 p.f0 p.f1 p.f2 p.f3 p.f4 p.f5 a1 a2 = some true := by
  obtain ⟨q, hq⟩ := few_go p
  have h1 := mn_le a1.size 200 (by omega)
  have h2 := mn_le a2.size 200 (by omega)
  have c1 := cut_size a1 200 (by omega)
  have c2 := cut_size a2 200 (by omega)
  unfold backseatlaw05_ParseCuts.f
  rw [hq]
  simp only [Option.bind_some]
  rw [if_pos h1.1, if_pos h1.2.1, if_pos h2.1, if_pos h2.2.1]
  generalize a1.extract 0 (mn (a1.size : Int) 200).toNat = s at c1 ⊢
  generalize a2.extract 0 (mn (a2.size : Int) 200).toNat = t at c2 ⊢
  have c1' : s.size ≤ 200 := c1
  have c2' : t.size ≤ 200 := c2
  have c12 : (s ++ t).size ≤ 400 := by rw [ByteArray.size_append]; omega
  rcases feed_or q s (by omega) with ⟨hr, hf⟩ | hf
  · rw [hf]
    simp only [Option.bind_some, feedT, if_true]
    obtain ⟨r1, l1⟩ := feed_right' hr s
    obtain ⟨r2, l2⟩ := feed_right' r1 t
    rw [feed_ok (feedR q s).1 t (by omega) r1]
    simp only [Option.bind_some, feedT, if_true]
    rw [if_pos (by omega), feed_ok q (s ++ t) (by omega) hr]
    simp only [Option.bind_some, feedT, if_true]
    rw [right_go _ r1]
    simp only [Option.bind_some, if_true]
    rw [right_go _ r2]
    simp only [Option.bind_some, if_true]
    have p16 := (right_parOk r2).1
    have o64 := right_osc r2
    have p3 := right_pend r2
    rw [if_neg (by omega), if_neg (by omega), decide_eq_false (by omega), feed_two]
    exact cuts_j0 1199 (by omega) _ _ _ (by omega) (by omega) (feed_fewN hr s) (feed_fewN r1 t) p16
  · rw [hf]
    simp only [Option.bind_some, feedT]
    rw [if_neg (by decide), alive_go5]
    rfl
end Go.Proofs.YthipdgnbpdngpaaDoor
