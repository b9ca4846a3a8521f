-- A copy of the text YthipdgnbpdngpaaDoorGRd5 with what this claim does not reach left out (prune.py, a program of this project).
import Derived.Test.YthipdgnbpdngpaaDoorZpGRd4
namespace Go.Proofs.YthipdgnbpdngpaaDoor
open Go.RowKit Go.Proofs.YthipdgnbpdngpaaDoorW.PrintWords Go.Proofs.YthipdgnbpdngpaaDoorW.PrintLast Go.Proofs.YthipdgnbpdngpaaDoorW.PrintMore S
attribute [local go_sem] max2_int min2_int max_two min_two
set_option linter.unusedVariables false
set_option linter.unusedSimpArgs false
def parF (l : List Int) : List Int := if l.length = 0 then [0] else l
theorem parF_pos (l : List Int) : 0 < (parF l).length := by
  unfold parF
  split
  · exact Nat.one_pos
  · omega
def withPar (p : S52) (l : List Int) : S52 := ⟨p.f0, p.f1, l, p.f3, p.f4, p.f5⟩
theorem ints_lit (w : World) (x : Int) : IntsAt (w.alloc (.cells #[.int .i64 x] 3)) w.heap.size #[.int .i64 x] [x] :=
  ⟨heap_alloc_new w _, fun j y hj => by
    rcases j with _ | j
    · simp only [List.getElem?_cons_zero, Option.some.injEq] at hj
      rw [hj]; rfl
    · simp at hj, by simp⟩
set_option maxRecDepth 100000 in
set_option maxHeartbeats 4000000 in
theorem param_calls (w : World) (base : Nat) (P : Nat → Prop) (B : Nat) (vP vD : Value) (p : S52) (d : List S62) (h : RS w base P B vP vD p d) :
    Calls Tryd.prog 87 #[.pointer (some ⟨B, 0, none⟩)] w fun e w' => e = .returned (.tuple #[]) ∧ Left w base P B vD (withPar p (parF p.f2)) d w' := by
  obtain ⟨A4, c4, e4⟩ := Kd.V_slice h.par
  subst e4
  have z2 : w.cell? ⟨B, 2, none⟩ = some (.slice A4 p.f2.length c4) := h.cell 2
  have zf2 := h.frozen 2
  have hne : B ≠ w.heap.size := by have := blk_lt h.blk; omega
  have y2 : ∀ o, (w.alloc o).cell? ⟨B, 2, none⟩ = some (.slice A4 p.f2.length c4) := fun o => blk_cell (blk_alloc h.blk o) 2
  have yf2 : ∀ o, (w.alloc o).frozen? ⟨B, 2, none⟩ = false := fun o => blk_frozen (blk_alloc h.blk o) 2
  have H := Aside0.mk h
  have hu50 := Tryd.underlying50
  clear h
  unfold parF
  by_cases t2 : p.f2.length = 0
  · rw [if_pos t2]
    have t3 : ((p.f2.length : Int) == 0) = true := by simp [t2]
    have t4 : (p.f2.length == 0) = true := by simp [t2]
    clear t2
    go_enter Tryd.func87, Tryd.ntmps87
    go_wp2
    go_end0
    exact ⟨rfl, H.out.parLeft (xs := [0]) (below_alloc (Below.refl _ _) _) (Nat.le_refl _) (ints_lit w 0) (Nat.le_refl _)⟩
  · rw [if_neg t2]
    have t3 : ((p.f2.length : Int) == 0) = false := by simp [t2]
    have t4 : (p.f2.length == 0) = false := by simp [t2]
    clear t2
    go_enter Tryd.func87, Tryd.ntmps87
    go_wp2
    go_end0
    exact ⟨rfl, _, _, H.out, Below.refl _ _, Kp.refl _ _ _⟩
end Go.Proofs.YthipdgnbpdngpaaDoor
