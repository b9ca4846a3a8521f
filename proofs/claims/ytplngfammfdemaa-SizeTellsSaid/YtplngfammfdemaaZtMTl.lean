-- A copy of the text YtplngfammfdemaaMTl with what this claim does not reach left out (prune.py, a program of this project).
import Derived.Test.YtplngfammfdemaaZtMAl
import Derived.Test.YtplngfammfdemaaZtPx7
namespace Go.Proofs.Ytplngfammfdemaa
set_option linter.unusedVariables false
set_option linter.unusedSimpArgs false
open Go.RowKit Go.Proofs.YtplngfammfdemaaW.PrintWords Go.Proofs.YtplngfammfdemaaW.PrintLast Go.Proofs.YtplngfammfdemaaW.PrintMore Go.Proofs.Ytplngfammfdemaa.P
theorem few_eq (l : List S48) : backseatlaw16_few.f l = some (l.take (min l.length 8)) := by
  unfold backseatlaw16_few.f
  have e : mn (l.length : Int) 8 = ((min l.length 8 : Nat) : Int) := by unfold mn; split <;> omega
  rw [e, if_pos (by omega), if_pos (by omega), Int.toNat_natCast]
theorem few_len (l : List S48) : (l.take (min l.length 8)).length ≤ 8 := by rw [List.length_take]; omega
theorem filt_may {l : List S48} (h : RightP l) (p : S48 → Bool) : ∀ y ∈ l.filter p, mayP y := fun y hy => h.2.1 y (List.mem_filter.1 hy).1
theorem latest_eq (l : List S48) (h : l.length < 1000) : size_Latest.f l = if RightP l then some ((latR l).1.f0, (latR l).1.f1, (latR l).1.f2, (latR l).1.f3, (latR l).2) else some (0, 0, 0, 0, 1) := by
  unfold size_Latest.f; rw [if_pos (by omega)]
theorem of_eq (l : List S48) (c : List Int) (h : l.length < 1000) (hc : c.length < 1000) : size_Of.f l c = if RightP l then (if (ofR l c).2 = 0 then some ((ofR l c).1.f1, wrap64 ((ofR l c).1.f2 - 1), 0) else some (0, 0, (ofR l c).2)) else some (0, 0, 1) := by
  unfold size_Of.f; rw [if_pos ⟨by omega, by omega⟩]
theorem SizeTells (l0 : List S48) (l1 : List Int) : ∃ k, backseatlaw16_SizeTells.f k l0 l1 = some true := by
  obtain ⟨t, ht⟩ : ∃ t, t = l0.take (min l0.length 8) := ⟨_, rfl⟩
  have htl : t.length ≤ 8 := by rw [ht]; exact few_len l0
  have hmn : mn (l1.length : Int) 12 = ((min l1.length 12 : Nat) : Int) := by unfold mn; split <;> omega
  obtain ⟨c, hc⟩ : ∃ c, c = l1.take (min l1.length 12) := ⟨_, rfl⟩
  have hcl : c.length ≤ 12 := by rw [hc, List.length_take]; omega
  obtain ⟨ka, ha⟩ := alive_ev
  obtain ⟨kr, hr⟩ := ref_right_ev t (by omega)
  obtain ⟨kl, hl⟩ := ref_latest_ev t (by omega)
  obtain ⟨ks, hs⟩ := ref_some_ev t (by omega) c (by omega)
  obtain ⟨km, hm⟩ := ref_latest_ev (t.filter (fun x => decide (x.f0 ∈ c))) (by have := List.length_filter_le (fun x : S48 => decide (x.f0 ∈ c)) t; omega)
  refine ⟨ka + kr + kl + ks + km + 1, ?_⟩
  have qa := ha (ka + kr + kl + ks + km + 1) (by omega)
  have qa' := ha (ka + kr + kl + ks + km) (by omega)
  have qr := hr (ka + kr + kl + ks + km + 1) (by omega)
  have ql := hl (ka + kr + kl + ks + km + 1) (by omega)
  have qs := hs (ka + kr + kl + ks + km + 1) (by omega)
  have qm := hm (ka + kr + kl + ks + km + 1) (by omega)
  dsimp only at qa qa' qr ql qs qm
  generalize ka + kr + kl + ks + km = k at qa qa' qr ql qs qm
  unfold backseatlaw16_SizeTells.f
  rw [few_eq, Option.bind_some, ← ht, hmn, if_pos (by omega), if_pos (by omega), Int.toNat_natCast, ← hc]
  rw [latest_eq t (by omega), of_eq t c (by omega) (by omega)]
  by_cases hp : RightP t
  · rw [if_pos hp, if_pos hp, Option.bind_some]
    rw [decide_eq_true hp] at qr
    have hB := best_all t hp.2.1
    have hC := best_all (t.filter (fun x => decide (x.f0 ∈ c))) (filt_may hp _)
    have hO : ofR t c = latR (t.filter (fun x => decide (x.f0 ∈ c))) := rfl
    have hj : ∀ (b : Bool), b = false → ∀ x7 x8 x9, (if (ofR t c).2 = 0 then some ((ofR t c).1.f1, wrap64 ((ofR t c).1.f2 - 1), 0) else some (0, 0, (ofR t c).2)) = some (x7, x8, x9) → backseatlaw16_SizeTells.j0 (k + 1) x7 x8 x9 b (refBest (t.filter (fun x => decide (x.f0 ∈ c)))).f0 (refBest (t.filter (fun x => decide (x.f0 ∈ c)))).f1 (refBest (t.filter (fun x => decide (x.f0 ∈ c)))).f2 (refBest (t.filter (fun x => decide (x.f0 ∈ c)))).f3 = some true := by
      rintro b rfl x7 x8 x9 hx
      rw [backseatlaw16_SizeTells.j0, if_neg (by decide)]
      rcases hC with ⟨h1, h2, h3⟩ | ⟨h1, h2, h3⟩
      · rw [hO, h2, if_neg (by decide)] at hx
        simp only [Option.some.injEq, Prod.mk.injEq] at hx
        obtain ⟨rfl, rfl, rfl⟩ := hx
        rw [if_pos h1, if_pos rfl, if_pos rfl]; rfl
      · rw [hO, h2, if_pos rfl] at hx
        simp only [Option.some.injEq, Prod.mk.injEq] at hx
        obtain ⟨rfl, rfl, rfl⟩ := hx
        rw [if_neg (by omega), if_pos rfl, if_pos rfl]
        simp
    obtain ⟨x7, x8, x9, hx⟩ : ∃ x7 x8 x9, (if (ofR t c).2 = 0 then some ((ofR t c).1.f1, wrap64 ((ofR t c).1.f2 - 1), 0) else some (0, 0, (ofR t c).2)) = some (x7, x8, x9) := by
      split <;> exact ⟨_, _, _, rfl⟩
    rw [hx, Option.bind_some, qr, Option.bind_some, if_pos rfl, ql, Option.bind_some, qs, Option.bind_some, qm, Option.bind_some]
    dsimp only
    have hj' := fun b hb => hj b hb x7 x8 x9 hx
    rcases hB with ⟨h1, h2, h3⟩ | ⟨h1, h2, h3⟩
    · rw [h2, h3, if_pos rfl, if_pos rfl, if_neg (by decide), if_neg (by decide), qa, Option.bind_some]
      exact hj' _ rfl
    · rw [h2, if_neg (by omega), if_pos (by omega), if_pos rfl, if_neg (by simp), qa, Option.bind_some]
      exact hj' _ rfl
  · rw [if_neg hp, if_neg hp, Option.bind_some, Option.bind_some]
    rw [decide_eq_false hp] at qr
    rw [qr, Option.bind_some, if_neg (by decide), qa, Option.bind_some, if_pos rfl]
    rfl
end Go.Proofs.Ytplngfammfdemaa
