-- A copy of the text YtplngfammfdemaaMF6 with what this claim does not reach left out (prune.py, a program of this project).
import Derived.Test.YtplngfammfdemaaZfMF5
import Derived.Test.YtplngfammfdemaaZfQx28
namespace Go.Proofs.Ytplngfammfdemaa
open Go.RowKit Go.Proofs.YtplngfammfdemaaW.PrintWords Go.Proofs.YtplngfammfdemaaW.PrintMore Q
set_option linter.unusedVariables false
set_option linter.unusedSimpArgs false
theorem rd44_get (l : List S44) (i : Nat) (h : i < l.length) : rd_T44 l (i : Int) = l[i] := by
  unfold rd_T44
  rw [Int.toNat_natCast, List.getD_eq_getElem?_getD, List.getElem?_eq_getElem h, Option.getD_some]
theorem okF_nodup {L : List Int} (h : okF L 0) : L.Nodup := by
  have key : ∀ n, n ≤ L.length → (L.take n).Nodup := by
    intro n
    induction n with
    | zero => intro _; simp
    | succ n ih =>
      intro hn
      rw [List.take_succ_eq_append_getElem (by omega), List.nodup_append]
      refine ⟨ih (by omega), by simp, ?_⟩
      intro a ha b hb
      rw [List.mem_singleton] at hb
      subst hb
      intro e
      subst e
      exact (h n (by omega) (by omega)).2 ha
  have := key L.length (Nat.le_refl _)
  rwa [List.take_length] at this
theorem okF_pok {L : List Int} (h : okF L 0) : Pok L := by
  intro p hp
  obtain ⟨i, hi, rfl⟩ := List.getElem_of_mem hp
  exact (h i hi (by omega)).1
theorem fits_loop (L : List Int) (how w h : Int) (rs : List S44) (hrs : rs.map (·.f0) = L) (hQ : Qh how w h 0 0 rs) (hP : PH 0 0 rs) (h8 : L.length ≤ 10) : ∀ d i k, i + d = rs.length → d < k → backseatlaw12_PresetFits.l0 k L how w h rs rs (rs.length : Int) (i : Int) = some true := by
  have hlen : rs.length = L.length := by rw [← hrs, List.length_map]
  intro d
  induction d with
  | zero =>
    intro i k hi hk
    obtain ⟨k, rfl⟩ : ∃ m, k = m + 1 := ⟨k - 1, by omega⟩
    simp only [backseatlaw12_PresetFits.l0]
    rw [if_neg (by omega)]
    by_cases a : how < 3
    · rw [if_pos a]
    rw [if_neg a]
    by_cases b : how > 4
    · rw [if_pos b]
    rw [if_neg b]
    obtain ⟨r, l, rfl, e1, e2⟩ := hP
    rw [if_pos (by simp)]
    have e : rd_T44 (r :: l) 0 = r := rd44_get (r :: l) 0 (by simp)
    rw [e, if_pos e1, e2]
    rfl
  | succ d ih =>
    intro i k hi hk
    obtain ⟨k, rfl⟩ : ∃ m, k = m + 1 := ⟨k - 1, by omega⟩
    simp only [backseatlaw12_PresetFits.l0]
    have hm : rd_T44 rs (i : Int) ∈ rs := by rw [rd44_get rs i (by omega)]; exact List.getElem_mem _
    have hf0 : (rd_T44 rs (i : Int)).f0 = rd L (i : Int) := by
      rw [rd44_get rs i (by omega), rd_get L i (by omega)]
      subst hrs
      simp
    rw [if_pos (by omega), if_pos (by omega), if_pos (by omega), if_pos (by omega), if_pos hf0, wrap_i (by omega) (by omega), show ((i : Int) + 1) = ((i + 1 : Nat) : Int) by omega]
    by_cases a : how = 1
    · have q := hQ.1 a _ hm
      rw [if_pos a, if_pos q.1, if_pos q.2, if_neg (show ¬ how = 2 by omega)]
      exact ih (i + 1) k (by omega) (by omega)
    rw [if_neg a]
    by_cases b : how = 2
    · have q := hQ.2 b _ hm
      rw [if_pos b, if_pos q.1, if_pos q.2]
      exact ih (i + 1) k (by omega) (by omega)
    rw [if_neg b]
    exact ih (i + 1) k (by omega) (by omega)
theorem PresetFits (l0 : List Int) (how w h : Int) : ∃ k, backseatlaw12_PresetFits.f k l0 how w h = some true := by
  refine ⟨300, ?_⟩
  have hmn : mn (l0.length : Int) 10 = ((min l0.length 10 : Nat) : Int) := by
    unfold mn; split <;> omega
  unfold backseatlaw12_PresetFits.f
  rw [hmn, Int.toNat_natCast, if_pos (by omega), if_pos (by omega)]
  have h10 : (l0.take (min l0.length 10)).length ≤ 10 := by rw [List.length_take]; omega
  generalize l0.take (min l0.length 10) = L at h10
  by_cases hm : MayP L how w h
  · obtain ⟨k', hk', he⟩ := lay_lays L how w h hm
    rw [he]
    obtain ⟨ho, h1, h8, a1, a2, a3, a4, a5, a6⟩ := hm
    obtain ⟨kd, a, b, l, ok, ha, hno, hyes⟩ := how_gr L h1 h8 (okF_pok ho) how w h a1 a2 a3 a4 a5 a6 k' (by omega)
    rw [ha]
    unfold laid
    simp only [Option.bind_some]
    by_cases ht : ok = true
    · rw [if_pos ht]
      simp only [Option.bind_some]
      obtain ⟨_, hg⟩ := hyes ht
      obtain ⟨g1, g2, g3⟩ := hg 0
      obtain ⟨rs, r1, r2, r3, r4⟩ := g3 0 0 (by omega) (by omega) (by omega) (by omega)
      have hright : tree_Right.f 300 a b 0 l w h = some true := by
        unfold tree_Right.f
        rw [size_f, decide_eq_true ⟨a3, a4, a5, a6⟩]
        simp only [Option.bind_some, if_true]
        have m := g2 0 (by omega) (by omega) 300 (by omega)
        have m : tree_made.f 300 a b 0 l w h 0 = some true := m
        rw [m]
        simp only [Option.bind_some, if_true]
        rw [g1 300 (by omega)]
        simp only [Option.bind_some]
        congr 1
        exact decide_eq_true ⟨okF_nodup ho, h8⟩
      have hrects : tree_Rects.f 300 a b 0 l w h = some (rs, 0) := by
        unfold tree_Rects.f
        rw [hright]
        simp only [Option.bind_some, if_true]
        have m : tree_lie.f 300 a b 0 l 0 0 0 w h = some rs := r1 300 (by omega)
        rw [m]
        rfl
      have hlen : rs.length = L.length := by rw [← r2, List.length_map]
      rw [if_pos trivial, hrects]
      simp only [Option.bind_some]
      rw [if_pos trivial, hright]
      simp only [Option.bind_some, if_true]
      rw [if_pos (by omega), alive30 300 (by omega)]
      simp only [Option.bind_some]
      rw [show (300 : Nat) = 299 + 1 from rfl, backseatlaw12_PresetFits.j0, if_neg (by decide)]
      exact fits_loop L how w h rs r2 r4 r3 h10 rs.length 0 299 (by omega) (by omega)
    · rw [if_neg ht]
      simp only [Option.bind_some]
      rw [if_neg (by decide), alive30 300 (by omega)]
      simp only [Option.bind_some, if_true]
      have hr := hno (by simpa using ht)
      rw [if_neg (by decide)]
      by_cases hw15 : w < 15
      · rw [if_pos hw15]
      · rw [if_neg hw15, decide_eq_true (by omega)]
  · rw [lay_refuses L h10 how w h hm]
    simp only [Option.bind_some]
    rw [if_neg (by decide), alive30 300 (by omega)]
    simp only [Option.bind_some, if_true]
end Go.Proofs.Ytplngfammfdemaa
