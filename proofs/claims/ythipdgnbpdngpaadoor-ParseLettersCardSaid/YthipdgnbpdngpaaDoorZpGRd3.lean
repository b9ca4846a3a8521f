-- A copy of the text YthipdgnbpdngpaaDoorGRd3 with what this claim does not reach left out (prune.py, a program of this project).
import Derived.Test.YthipdgnbpdngpaaDoorZpGRd2
import Derived.StillTailTactics
namespace Go.Proofs.YthipdgnbpdngpaaDoor
open Go.RowKit Go.Proofs.YthipdgnbpdngpaaDoorW.PrintWords Go.Proofs.YthipdgnbpdngpaaDoorW.PrintLast Go.Proofs.YthipdgnbpdngpaaDoorW.PrintMore S
set_option linter.unusedVariables false
set_option linter.unusedSimpArgs false
def dispD (p : S52) (d : List S62) (c : Int) : List S62 := d ++ [⟨4, 0, c, p.f1, p.f2, p.f3, ⟨#[]⟩⟩]
set_option maxRecDepth 100000 in
set_option maxHeartbeats 4000000 in
theorem dispatch_calls (c : Int) (w : World) (base : Nat) (P : Nat → Prop) (B : Nat) (vP vD : Value) (p : S52) (d : List S62) (h : RS w base P B vP vD p d) (hd : d.length ≤ 1000000000) :
    Calls Tryd.prog 90 #[.pointer (some ⟨B, 0, none⟩), .int .i64 c] w fun e w' => e = .returned (.tuple #[]) ∧ Left w base P B vD (toF 0) (dispD p d c) w' := by
  obtain ⟨A4, c4, e4⟩ := Kd.V_slice h.par
  subst e4
  have z1 : w.cell? ⟨B, 1, none⟩ = some (.int .i64 p.f1) := h.cell 1
  have z2 : w.cell? ⟨B, 2, none⟩ = some (.slice A4 p.f2.length c4) := h.cell 2
  have z3 : w.cell? ⟨B, 3, none⟩ = some (.int .i64 p.f3) := h.cell 3
  have H0 := Aside0.mk h
  have H := Aside0.mk h.drew
  have B0 := Aside0.mk (below_drew (Below.refl base w))
  have K0 := Aside0.mk (Kp.refl B vD w).drew
  have hu52 := Tryd.underlying52
  have hu62 := Tryd.underlying62
  clear h
  unfold dispD
  go_enter Tryd.func90, Tryd.ntmps90
  go_wp2_with fail
  go_still_tail 18, (by kernel_rfl)
  change wpList _ _ _ _ _ w.drew
  generalize w.drew = w2 at H B0 K0 ⊢
  go_wp2_with (first | (go_at_call 78; (with_reducible refine (do_row _ _ _ _ _ _ _ base P B _ _ p d _ _ _ _ H.out H.out.par hd).mono ?_); rintro e w1 ⟨rfl, vP1, vD1, h1, hb1, hk1⟩; have H1 := Aside0.mk h1; have B1 := Aside0.mk hb1; have K1 := Aside0.mk hk1; clear h1 hb1 hk1) | (go_at_call 79; (with_reducible refine (to_calls _ _ base P B _ _ p _ (by first | exact H1.out | exact H.out)).mono ?_); rintro e w2 ⟨rfl, L2⟩; have L := Aside0.mk L2; clear L2))
  go_end0
  exact ⟨rfl, Left.after B0.out K0.out (Left.after B1.out K1.out L.out)⟩
def behindP (p : S52) (c : Int) : S52 := if inB c 64 126 = true then toF 0 else if c = 127 then p else toF 5
def behindD (p : S52) (d : List S62) (c : Int) : List S62 := if inB c 64 126 = true then dispD p d c else d
set_option maxRecDepth 100000 in
set_option maxHeartbeats 4000000 in
theorem behind_calls (c : Int) (w : World) (base : Nat) (P : Nat → Prop) (B : Nat) (vP vD : Value) (p : S52) (d : List S62) (h : RS w base P B vP vD p d) (hd : d.length ≤ 1000000000) :
    Calls Tryd.prog 72 #[.pointer (some ⟨B, 0, none⟩), .int .i64 c] w fun e w' => e = .returned (.tuple #[]) ∧ Left w base P B vD (behindP p c) (behindD p d c) w' := by
  have H := Aside0.mk h
  have hu52 := Tryd.underlying52
  have hu62 := Tryd.underlying62
  clear h
  unfold behindP behindD
  by_cases t2 : inB c 64 126 = true
  · rw [if_pos t2, if_pos t2]
    go_enter Tryd.func72, Tryd.ntmps72
    go_wp2_with (first | (go_at_call 58; (with_reducible refine (in_calls _ _ _ _).mono ?_); rintro e w1 ⟨rfl, rfl⟩) | (go_at_call 90; (with_reducible refine (dispatch_calls _ _ base P B _ _ p d H.out hd).mono ?_); rintro e w2 ⟨rfl, L2⟩; have L := Aside0.mk L2; clear L2) | (go_at_call 79; (with_reducible refine (to_calls _ _ base P B _ _ p _ (by first | exact H1.out | exact H.out)).mono ?_); rintro e w2 ⟨rfl, L2⟩; have L := Aside0.mk L2; clear L2))
    all_goals
      first | go_end0 | ((try simp only [Exit.inBlock, Exit.then]); refine bodyPost_ret (results_none rfl _ _ _) rfl ?_)
      first | exact ⟨rfl, Left.after B1.out K1.out L.out⟩ | exact ⟨rfl, L.out⟩ | exact ⟨rfl, _, _, H1.out, B1.out, K1.out⟩ | exact ⟨rfl, _, _, H.out, Below.refl _ _, Kp.refl _ _ _⟩
  · rw [if_neg t2, if_neg t2]; replace t2 := eq_false_of_ne_true t2
    by_cases t4 : c = 127
    · rw [if_pos t4]
      have t4a : (c == (127 : Int)) = true := by simp [t4]
      have t4b : (c != (127 : Int)) = false := by simp [t4]
      clear t4
      go_enter Tryd.func72, Tryd.ntmps72
      go_wp2_with (first | (go_at_call 58; (with_reducible refine (in_calls _ _ _ _).mono ?_); rintro e w1 ⟨rfl, rfl⟩) | (go_at_call 90; (with_reducible refine (dispatch_calls _ _ base P B _ _ p d H.out hd).mono ?_); rintro e w2 ⟨rfl, L2⟩; have L := Aside0.mk L2; clear L2) | (go_at_call 79; (with_reducible refine (to_calls _ _ base P B _ _ p _ (by first | exact H1.out | exact H.out)).mono ?_); rintro e w2 ⟨rfl, L2⟩; have L := Aside0.mk L2; clear L2))
      all_goals
        first | go_end0 | ((try simp only [Exit.inBlock, Exit.then]); refine bodyPost_ret (results_none rfl _ _ _) rfl ?_)
        first | exact ⟨rfl, Left.after B1.out K1.out L.out⟩ | exact ⟨rfl, L.out⟩ | exact ⟨rfl, _, _, H1.out, B1.out, K1.out⟩ | exact ⟨rfl, _, _, H.out, Below.refl _ _, Kp.refl _ _ _⟩
    · rw [if_neg t4]
      have t4a : (c == (127 : Int)) = false := by simp [t4]
      have t4b : (c != (127 : Int)) = true := by simp [t4]
      clear t4
      go_enter Tryd.func72, Tryd.ntmps72
      go_wp2_with (first | (go_at_call 58; (with_reducible refine (in_calls _ _ _ _).mono ?_); rintro e w1 ⟨rfl, rfl⟩) | (go_at_call 90; (with_reducible refine (dispatch_calls _ _ base P B _ _ p d H.out hd).mono ?_); rintro e w2 ⟨rfl, L2⟩; have L := Aside0.mk L2; clear L2) | (go_at_call 79; (with_reducible refine (to_calls _ _ base P B _ _ p _ (by first | exact H1.out | exact H.out)).mono ?_); rintro e w2 ⟨rfl, L2⟩; have L := Aside0.mk L2; clear L2))
      all_goals
        first | go_end0 | ((try simp only [Exit.inBlock, Exit.then]); refine bodyPost_ret (results_none rfl _ _ _) rfl ?_)
        first | exact ⟨rfl, Left.after B1.out K1.out L.out⟩ | exact ⟨rfl, L.out⟩ | exact ⟨rfl, _, _, H1.out, B1.out, K1.out⟩ | exact ⟨rfl, _, _, H.out, Below.refl _ _, Kp.refl _ _ _⟩
end Go.Proofs.YthipdgnbpdngpaaDoor
