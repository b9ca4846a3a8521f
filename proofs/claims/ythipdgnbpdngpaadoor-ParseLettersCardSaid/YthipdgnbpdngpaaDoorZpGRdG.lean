-- A copy of the text YthipdgnbpdngpaaDoorGRdG with what this claim does not reach left out (prune.py, a program of this project).
import Derived.Test.YthipdgnbpdngpaaDoorZpGRdF
import Derived.Deep.QuietTactic
import Derived.BigQuiet
namespace Go.Proofs.YthipdgnbpdngpaaDoor
open Go.RowKit Go.Proofs.YthipdgnbpdngpaaDoorW.PrintWords Go.Proofs.YthipdgnbpdngpaaDoorW.PrintLast Go.Proofs.YthipdgnbpdngpaaDoorW.PrintMore S
set_option linter.unusedVariables false
set_option linter.unusedSimpArgs false
def emptyB (s : ByteArray) : Bool := s.toList.isEmpty
def pendB (p : S52) : Bool := if p.f0 = 0 then decide ((firstL p.f5.data.toList).2.2 = 2) else emptyB p.f5
def oscB (p : S52) : Bool := if p.f0 = 6 then decide (p.f4.size ≤ 64) else emptyB p.f4
def csiB (p : S52) : Bool := if p.f0 = 3 ∨ p.f0 = 4 then ((p.f1 == 0 || inB p.f1 60 63) && decide (p.f2.length ≤ 16) && !(p.f2.any oddB)) else p.f1 == 0 && decide (p.f2.length = 0)
def interB (p : S52) : Bool := if p.f0 = 2 ∨ p.f0 = 4 then inB p.f3 32 47 else p.f3 == 0
def rightB (p : S52) : Bool := inB p.f0 0 8 && pendB p && oscB p && csiB p && interB p
set_option maxRecDepth 100000 in
set_option maxHeartbeats 4000000 in
theorem right_o (p : S52) (A2 : Option Addr) (c2 : Nat) (w : World) (hr : Kd.C (Kd.int .i64) w A2 p.f2.length p.f2) (hc : p.f2.length ≤ c2) (h0 : p.f0 ≠ 0) (h2 : p.f0 ≠ 2) (h3 : p.f0 ≠ 3) (h4 : p.f0 ≠ 4) (h6 : p.f0 ≠ 6) :
    Calls Tryd.prog 34 #[.agg #[.int .i64 p.f0, .int .i64 p.f1, .slice A2 p.f2.length c2, .int .i64 p.f3, .string p.f4, .string p.f5]] w fun e w' => e = .returned (.bool (rightB p)) ∧ Below w.heap.size w w' := by
  have e0 : (p.f0 == (0 : Int)) = false := beq_eq_false_iff_ne.2 h0
  have e2 : (p.f0 == (2 : Int)) = false := beq_eq_false_iff_ne.2 h2
  have e3 : (p.f0 == (3 : Int)) = false := beq_eq_false_iff_ne.2 h3
  have e4 : (p.f0 == (4 : Int)) = false := beq_eq_false_iff_ne.2 h4
  have e6 : (p.f0 == (6 : Int)) = false := beq_eq_false_iff_ne.2 h6
  have hu52 := Tryd.underlying52
  have hu50 := Tryd.underlying50
  have HC := Aside0.mk hr
  clear hr h0 h2 h3 h4 h6
  generalize hR : rightB p = rb
  have HR := Aside0.mk hR
  clear hR
  by_cases h1 : p.f1 = 0
  · have e1 : (p.f1 == (0 : Int)) = true := by simp [h1]
    clear h1
    go_enter Tryd.func34, Tryd.ntmps34
    go_wp2_with fail
    go_quiet (fail)
    go_wp2_with (first | (go_at_call 58; (with_reducible refine (in_calls _ _ _ _).mono ?_); rintro e w1 ⟨rfl, rfl⟩))
    all_goals
      go_ret
      refine ⟨?_, by first | exact pw_below_drewN (below_alloc (Below.refl _ _) _) _ | exact BB.out⟩
      show Ending.returned (.bool _) = Ending.returned (.bool rb)
      have g0 : ¬ p.f0 = 0 := beq_eq_false_iff_ne.1 e0
      have g2 : ¬ p.f0 = 2 := beq_eq_false_iff_ne.1 e2
      have g3 : ¬ p.f0 = 3 := beq_eq_false_iff_ne.1 e3
      have g4 : ¬ p.f0 = 4 := beq_eq_false_iff_ne.1 e4
      have g6 : ¬ p.f0 = 6 := beq_eq_false_iff_ne.1 e6
      rw [← HR.out]
      simp [rightB, pendB, oscB, csiB, interB, emptyB, *]
  · have e1 : (p.f1 == (0 : Int)) = false := beq_eq_false_iff_ne.2 h1
    clear h1
    go_enter Tryd.func34, Tryd.ntmps34
    go_wp2_with fail
    go_quiet (fail)
    go_wp2_with (first | (go_at_call 58; (with_reducible refine (in_calls _ _ _ _).mono ?_); rintro e w1 ⟨rfl, rfl⟩))
    all_goals
      go_ret
      refine ⟨?_, by first | exact pw_below_drewN (below_alloc (Below.refl _ _) _) _ | exact BB.out⟩
      show Ending.returned (.bool _) = Ending.returned (.bool rb)
      have g0 : ¬ p.f0 = 0 := beq_eq_false_iff_ne.1 e0
      have g2 : ¬ p.f0 = 2 := beq_eq_false_iff_ne.1 e2
      have g3 : ¬ p.f0 = 3 := beq_eq_false_iff_ne.1 e3
      have g4 : ¬ p.f0 = 4 := beq_eq_false_iff_ne.1 e4
      have g6 : ¬ p.f0 = 6 := beq_eq_false_iff_ne.1 e6
      rw [← HR.out]
      simp [rightB, pendB, oscB, csiB, interB, emptyB, *]
set_option maxRecDepth 100000 in
set_option maxHeartbeats 4000000 in
theorem right_2 (p : S52) (A2 : Option Addr) (c2 : Nat) (w : World) (hr : Kd.C (Kd.int .i64) w A2 p.f2.length p.f2) (hc : p.f2.length ≤ c2) (hs : p.f0 = 2) :
    Calls Tryd.prog 34 #[.agg #[.int .i64 p.f0, .int .i64 p.f1, .slice A2 p.f2.length c2, .int .i64 p.f3, .string p.f4, .string p.f5]] w fun e w' => e = .returned (.bool (rightB p)) ∧ Below w.heap.size w w' := by
  have e0 : (p.f0 == (0 : Int)) = false := by rw [hs]; rfl
  have e2 : (p.f0 == (2 : Int)) = true := by simp [hs]
  have e3 : (p.f0 == (3 : Int)) = false := by rw [hs]; rfl
  have e4 : (p.f0 == (4 : Int)) = false := by rw [hs]; rfl
  have e6 : (p.f0 == (6 : Int)) = false := by rw [hs]; rfl
  have g8 : inB p.f0 0 8 = true := by rw [hs]; rfl
  have hu52 := Tryd.underlying52
  have hu50 := Tryd.underlying50
  have HC := Aside0.mk hr
  clear hr hs
  generalize hR : rightB p = rb
  have HR := Aside0.mk hR
  clear hR
  by_cases h1 : p.f1 = 0
  · have e1 : (p.f1 == (0 : Int)) = true := by simp [h1]
    clear h1
    go_enter Tryd.func34, Tryd.ntmps34
    go_wp2_with fail
    go_quiet (fail)
    go_wp2_with (first | (go_at_call 58; (with_reducible refine (in_calls _ _ _ _).mono ?_); rintro e w1 ⟨rfl, rfl⟩))
    all_goals
      go_ret
      refine ⟨?_, by first | exact pw_below_drewN (below_alloc (Below.refl _ _) _) _ | exact BB.out⟩
      show Ending.returned (.bool _) = Ending.returned (.bool rb)
      have gs : p.f0 = 2 := eq_of_beq e2
      have gi : inB 2 0 8 = true := rfl
      rw [← HR.out]
      simp [rightB, pendB, oscB, csiB, interB, emptyB, *]
  · have e1 : (p.f1 == (0 : Int)) = false := beq_eq_false_iff_ne.2 h1
    clear h1
    go_enter Tryd.func34, Tryd.ntmps34
    go_wp2_with fail
    go_quiet (fail)
    go_wp2_with (first | (go_at_call 58; (with_reducible refine (in_calls _ _ _ _).mono ?_); rintro e w1 ⟨rfl, rfl⟩))
    all_goals
      go_ret
      refine ⟨?_, by first | exact pw_below_drewN (below_alloc (Below.refl _ _) _) _ | exact BB.out⟩
      show Ending.returned (.bool _) = Ending.returned (.bool rb)
      have gs : p.f0 = 2 := eq_of_beq e2
      have gi : inB 2 0 8 = true := rfl
      rw [← HR.out]
      simp [rightB, pendB, oscB, csiB, interB, emptyB, *]
set_option maxRecDepth 100000 in
set_option maxHeartbeats 4000000 in
theorem right_6 (p : S52) (A2 : Option Addr) (c2 : Nat) (w : World) (hr : Kd.C (Kd.int .i64) w A2 p.f2.length p.f2) (hc : p.f2.length ≤ c2) (hs : p.f0 = 6) :
    Calls Tryd.prog 34 #[.agg #[.int .i64 p.f0, .int .i64 p.f1, .slice A2 p.f2.length c2, .int .i64 p.f3, .string p.f4, .string p.f5]] w fun e w' => e = .returned (.bool (rightB p)) ∧ Below w.heap.size w w' := by
  have e0 : (p.f0 == (0 : Int)) = false := by rw [hs]; rfl
  have e2 : (p.f0 == (2 : Int)) = false := by rw [hs]; rfl
  have e3 : (p.f0 == (3 : Int)) = false := by rw [hs]; rfl
  have e4 : (p.f0 == (4 : Int)) = false := by rw [hs]; rfl
  have e6 : (p.f0 == (6 : Int)) = true := by simp [hs]
  have g8 : inB p.f0 0 8 = true := by rw [hs]; rfl
  have hu52 := Tryd.underlying52
  have hu50 := Tryd.underlying50
  have HC := Aside0.mk hr
  clear hr hs
  generalize hR : rightB p = rb
  have HR := Aside0.mk hR
  clear hR
  by_cases h1 : p.f1 = 0
  · have e1 : (p.f1 == (0 : Int)) = true := by simp [h1]
    clear h1
    go_enter Tryd.func34, Tryd.ntmps34
    go_wp2_with fail
    go_quiet (fail)
    go_wp2_with (first | (go_at_call 58; (with_reducible refine (in_calls _ _ _ _).mono ?_); rintro e w1 ⟨rfl, rfl⟩))
    all_goals
      go_ret
      refine ⟨?_, by first | exact pw_below_drewN (below_alloc (Below.refl _ _) _) _ | exact BB.out⟩
      show Ending.returned (.bool _) = Ending.returned (.bool rb)
      have gs : p.f0 = 6 := eq_of_beq e6
      have gi : inB 6 0 8 = true := rfl
      rw [← HR.out]
      simp [rightB, pendB, oscB, csiB, interB, emptyB, *] <;> (intros; omega)
  · have e1 : (p.f1 == (0 : Int)) = false := beq_eq_false_iff_ne.2 h1
    clear h1
    go_enter Tryd.func34, Tryd.ntmps34
    go_wp2_with fail
    go_quiet (fail)
    go_wp2_with (first | (go_at_call 58; (with_reducible refine (in_calls _ _ _ _).mono ?_); rintro e w1 ⟨rfl, rfl⟩))
    all_goals
      go_ret
      refine ⟨?_, by first | exact pw_below_drewN (below_alloc (Below.refl _ _) _) _ | exact BB.out⟩
      show Ending.returned (.bool _) = Ending.returned (.bool rb)
      have gs : p.f0 = 6 := eq_of_beq e6
      have gi : inB 6 0 8 = true := rfl
      rw [← HR.out]
      simp [rightB, pendB, oscB, csiB, interB, emptyB, *] <;> (intros; omega)
set_option maxRecDepth 100000 in
set_option maxHeartbeats 4000000 in
theorem right_3 (p : S52) (A2 : Option Addr) (c2 : Nat) (w : World) (hr : Kd.C (Kd.int .i64) w A2 p.f2.length p.f2) (hc : p.f2.length ≤ c2) (hs : p.f0 = 3) :
    Calls Tryd.prog 34 #[.agg #[.int .i64 p.f0, .int .i64 p.f1, .slice A2 p.f2.length c2, .int .i64 p.f3, .string p.f4, .string p.f5]] w fun e w' => e = .returned (.bool (rightB p)) ∧ Below w.heap.size w w' := by
  have e0 : (p.f0 == (0 : Int)) = false := by rw [hs]; rfl
  have e2 : (p.f0 == (2 : Int)) = false := by rw [hs]; rfl
  have e3 : (p.f0 == (3 : Int)) = true := by simp [hs]
  have e4 : (p.f0 == (4 : Int)) = false := by rw [hs]; rfl
  have e6 : (p.f0 == (6 : Int)) = false := by rw [hs]; rfl
  have g8 : inB p.f0 0 8 = true := by rw [hs]; rfl
  have hu52 := Tryd.underlying52
  have hu50 := Tryd.underlying50
  have HC := Aside0.mk hr
  clear hr hs
  generalize hR : rightB p = rb
  have HR := Aside0.mk hR
  clear hR
  by_cases hl : p.f2.length ≤ 16
  · have hl1 : decide ((p.f2.length : Int) ≤ 16) = true := decide_eq_true (by omega)
    by_cases h1 : p.f1 = 0
    · have e1 : (p.f1 == (0 : Int)) = true := by simp [h1]
      clear h1
      go_enter Tryd.func34, Tryd.ntmps34
      go_wp2_with fail
      go_quiet (fail)
      go_wp2_with (first | (go_at_call 58; (with_reducible refine (in_calls _ _ _ _).mono ?_); rintro e w1 ⟨rfl, rfl⟩) | (go_at_call 60; (with_reducible refine (contains_V p.f2 A2 c2 _ (by omega) (by repeat (with_reducible first | exact HC.out | refine Kd.C_alloc ?_ _ | refine Kd.C_drewN ?_ _))).mono ?_); rintro e w3 ⟨rfl, rfl⟩))
      all_goals
        go_ret
        refine ⟨?_, by first | exact pw_below_drewN (below_alloc (Below.refl _ _) _) _ | exact BB.out⟩
        show Ending.returned (.bool _) = Ending.returned (.bool rb)
        have gs : p.f0 = 3 := eq_of_beq e3
        have gi : inB 3 0 8 = true := rfl
        rw [← HR.out]
        simp [rightB, pendB, oscB, csiB, interB, emptyB, *]
    · have e1 : (p.f1 == (0 : Int)) = false := beq_eq_false_iff_ne.2 h1
      clear h1
      cases hq : inB p.f1 60 63 with
      | true =>
        go_enter Tryd.func34, Tryd.ntmps34
        go_wp2_with fail
        go_quiet (fail)
        go_wp2_with (first | (go_at_call 58; (with_reducible refine (in_calls _ _ _ _).mono ?_); rintro e w1 ⟨rfl, rfl⟩) | (go_at_call 60; (with_reducible refine (contains_V p.f2 A2 c2 _ (by omega) (by repeat (with_reducible first | exact HC.out | refine Kd.C_alloc ?_ _ | refine Kd.C_drewN ?_ _))).mono ?_); rintro e w3 ⟨rfl, rfl⟩))
        all_goals
          go_ret
          refine ⟨?_, by first | exact pw_below_drewN (below_alloc (Below.refl _ _) _) _ | exact BB.out⟩
          show Ending.returned (.bool _) = Ending.returned (.bool rb)
          have gs : p.f0 = 3 := eq_of_beq e3
          have gi : inB 3 0 8 = true := rfl
          rw [← HR.out]
          simp [rightB, pendB, oscB, csiB, interB, emptyB, *]
      | false =>
        go_enter Tryd.func34, Tryd.ntmps34
        go_wp2_with fail
        go_quiet (fail)
        go_wp2_with (first | (go_at_call 58; (with_reducible refine (in_calls _ _ _ _).mono ?_); rintro e w1 ⟨rfl, rfl⟩) | (go_at_call 60; (with_reducible refine (contains_V p.f2 A2 c2 _ (by omega) (by repeat (with_reducible first | exact HC.out | refine Kd.C_alloc ?_ _ | refine Kd.C_drewN ?_ _))).mono ?_); rintro e w3 ⟨rfl, rfl⟩))
        all_goals
          go_ret
          refine ⟨?_, by first | exact pw_below_drewN (below_alloc (Below.refl _ _) _) _ | exact BB.out⟩
          show Ending.returned (.bool _) = Ending.returned (.bool rb)
          have gs : p.f0 = 3 := eq_of_beq e3
          have gi : inB 3 0 8 = true := rfl
          rw [← HR.out]
          simp [rightB, pendB, oscB, csiB, interB, emptyB, *]
  · have hl1 : decide ((p.f2.length : Int) ≤ 16) = false := decide_eq_false (by omega)
    by_cases h1 : p.f1 = 0
    · have e1 : (p.f1 == (0 : Int)) = true := by simp [h1]
      clear h1
      go_enter Tryd.func34, Tryd.ntmps34
      go_wp2_with fail
      go_quiet (fail)
      go_wp2_with (first | (go_at_call 58; (with_reducible refine (in_calls _ _ _ _).mono ?_); rintro e w1 ⟨rfl, rfl⟩) | (go_at_call 60; (with_reducible refine (contains_V p.f2 A2 c2 _ (by omega) (by repeat (with_reducible first | exact HC.out | refine Kd.C_alloc ?_ _ | refine Kd.C_drewN ?_ _))).mono ?_); rintro e w3 ⟨rfl, rfl⟩))
      all_goals
        go_ret
        refine ⟨?_, by first | exact pw_below_drewN (below_alloc (Below.refl _ _) _) _ | exact BB.out⟩
        show Ending.returned (.bool _) = Ending.returned (.bool rb)
        have gs : p.f0 = 3 := eq_of_beq e3
        have gi : inB 3 0 8 = true := rfl
        rw [← HR.out]
        simp [rightB, pendB, oscB, csiB, interB, emptyB, *]
    · have e1 : (p.f1 == (0 : Int)) = false := beq_eq_false_iff_ne.2 h1
      clear h1
      cases hq : inB p.f1 60 63 with
      | true =>
        go_enter Tryd.func34, Tryd.ntmps34
        go_wp2_with fail
        go_quiet (fail)
        go_wp2_with (first | (go_at_call 58; (with_reducible refine (in_calls _ _ _ _).mono ?_); rintro e w1 ⟨rfl, rfl⟩) | (go_at_call 60; (with_reducible refine (contains_V p.f2 A2 c2 _ (by omega) (by repeat (with_reducible first | exact HC.out | refine Kd.C_alloc ?_ _ | refine Kd.C_drewN ?_ _))).mono ?_); rintro e w3 ⟨rfl, rfl⟩))
        all_goals
          go_ret
          refine ⟨?_, by first | exact pw_below_drewN (below_alloc (Below.refl _ _) _) _ | exact BB.out⟩
          show Ending.returned (.bool _) = Ending.returned (.bool rb)
          have gs : p.f0 = 3 := eq_of_beq e3
          have gi : inB 3 0 8 = true := rfl
          rw [← HR.out]
          simp [rightB, pendB, oscB, csiB, interB, emptyB, *]
      | false =>
        go_enter Tryd.func34, Tryd.ntmps34
        go_wp2_with fail
        go_quiet (fail)
        go_wp2_with (first | (go_at_call 58; (with_reducible refine (in_calls _ _ _ _).mono ?_); rintro e w1 ⟨rfl, rfl⟩) | (go_at_call 60; (with_reducible refine (contains_V p.f2 A2 c2 _ (by omega) (by repeat (with_reducible first | exact HC.out | refine Kd.C_alloc ?_ _ | refine Kd.C_drewN ?_ _))).mono ?_); rintro e w3 ⟨rfl, rfl⟩))
        all_goals
          go_ret
          refine ⟨?_, by first | exact pw_below_drewN (below_alloc (Below.refl _ _) _) _ | exact BB.out⟩
          show Ending.returned (.bool _) = Ending.returned (.bool rb)
          have gs : p.f0 = 3 := eq_of_beq e3
          have gi : inB 3 0 8 = true := rfl
          rw [← HR.out]
          simp [rightB, pendB, oscB, csiB, interB, emptyB, *]
set_option maxRecDepth 100000 in
set_option maxHeartbeats 4000000 in
theorem right_4 (p : S52) (A2 : Option Addr) (c2 : Nat) (w : World) (hr : Kd.C (Kd.int .i64) w A2 p.f2.length p.f2) (hc : p.f2.length ≤ c2) (hs : p.f0 = 4) :
    Calls Tryd.prog 34 #[.agg #[.int .i64 p.f0, .int .i64 p.f1, .slice A2 p.f2.length c2, .int .i64 p.f3, .string p.f4, .string p.f5]] w fun e w' => e = .returned (.bool (rightB p)) ∧ Below w.heap.size w w' := by
  have e0 : (p.f0 == (0 : Int)) = false := by rw [hs]; rfl
  have e2 : (p.f0 == (2 : Int)) = false := by rw [hs]; rfl
  have e3 : (p.f0 == (3 : Int)) = false := by rw [hs]; rfl
  have e4 : (p.f0 == (4 : Int)) = true := by simp [hs]
  have e6 : (p.f0 == (6 : Int)) = false := by rw [hs]; rfl
  have g8 : inB p.f0 0 8 = true := by rw [hs]; rfl
  have hu52 := Tryd.underlying52
  have hu50 := Tryd.underlying50
  have HC := Aside0.mk hr
  clear hr hs
  generalize hR : rightB p = rb
  have HR := Aside0.mk hR
  clear hR
  by_cases hl : p.f2.length ≤ 16
  · have hl1 : decide ((p.f2.length : Int) ≤ 16) = true := decide_eq_true (by omega)
    by_cases h1 : p.f1 = 0
    · have e1 : (p.f1 == (0 : Int)) = true := by simp [h1]
      clear h1
      go_enter Tryd.func34, Tryd.ntmps34
      go_wp2_with fail
      go_quiet (fail)
      go_wp2_with (first | (go_at_call 58; (with_reducible refine (in_calls _ _ _ _).mono ?_); rintro e w1 ⟨rfl, rfl⟩) | (go_at_call 60; (with_reducible refine (contains_V p.f2 A2 c2 _ (by omega) (by repeat (with_reducible first | exact HC.out | refine Kd.C_alloc ?_ _ | refine Kd.C_drewN ?_ _))).mono ?_); rintro e w3 ⟨rfl, rfl⟩))
      all_goals
        go_ret
        refine ⟨?_, by first | exact pw_below_drewN (below_alloc (Below.refl _ _) _) _ | exact BB.out⟩
        show Ending.returned (.bool _) = Ending.returned (.bool rb)
        have gs : p.f0 = 4 := eq_of_beq e4
        have gi : inB 4 0 8 = true := rfl
        rw [← HR.out]
        simp [rightB, pendB, oscB, csiB, interB, emptyB, *]
    · have e1 : (p.f1 == (0 : Int)) = false := beq_eq_false_iff_ne.2 h1
      clear h1
      cases hq : inB p.f1 60 63 with
      | true =>
        go_enter Tryd.func34, Tryd.ntmps34
        go_wp2_with fail
        go_quiet (fail)
        go_wp2_with (first | (go_at_call 58; (with_reducible refine (in_calls _ _ _ _).mono ?_); rintro e w1 ⟨rfl, rfl⟩) | (go_at_call 60; (with_reducible refine (contains_V p.f2 A2 c2 _ (by omega) (by repeat (with_reducible first | exact HC.out | refine Kd.C_alloc ?_ _ | refine Kd.C_drewN ?_ _))).mono ?_); rintro e w3 ⟨rfl, rfl⟩))
        all_goals
          go_ret
          refine ⟨?_, by first | exact pw_below_drewN (below_alloc (Below.refl _ _) _) _ | exact BB.out⟩
          show Ending.returned (.bool _) = Ending.returned (.bool rb)
          have gs : p.f0 = 4 := eq_of_beq e4
          have gi : inB 4 0 8 = true := rfl
          rw [← HR.out]
          simp [rightB, pendB, oscB, csiB, interB, emptyB, *]
      | false =>
        go_enter Tryd.func34, Tryd.ntmps34
        go_wp2_with fail
        go_quiet (fail)
        go_wp2_with (first | (go_at_call 58; (with_reducible refine (in_calls _ _ _ _).mono ?_); rintro e w1 ⟨rfl, rfl⟩) | (go_at_call 60; (with_reducible refine (contains_V p.f2 A2 c2 _ (by omega) (by repeat (with_reducible first | exact HC.out | refine Kd.C_alloc ?_ _ | refine Kd.C_drewN ?_ _))).mono ?_); rintro e w3 ⟨rfl, rfl⟩))
        all_goals
          go_ret
          refine ⟨?_, by first | exact pw_below_drewN (below_alloc (Below.refl _ _) _) _ | exact BB.out⟩
          show Ending.returned (.bool _) = Ending.returned (.bool rb)
          have gs : p.f0 = 4 := eq_of_beq e4
          have gi : inB 4 0 8 = true := rfl
          rw [← HR.out]
          simp [rightB, pendB, oscB, csiB, interB, emptyB, *]
  · have hl1 : decide ((p.f2.length : Int) ≤ 16) = false := decide_eq_false (by omega)
    by_cases h1 : p.f1 = 0
    · have e1 : (p.f1 == (0 : Int)) = true := by simp [h1]
      clear h1
      go_enter Tryd.func34, Tryd.ntmps34
      go_wp2_with fail
      go_quiet (fail)
      go_wp2_with (first | (go_at_call 58; (with_reducible refine (in_calls _ _ _ _).mono ?_); rintro e w1 ⟨rfl, rfl⟩) | (go_at_call 60; (with_reducible refine (contains_V p.f2 A2 c2 _ (by omega) (by repeat (with_reducible first | exact HC.out | refine Kd.C_alloc ?_ _ | refine Kd.C_drewN ?_ _))).mono ?_); rintro e w3 ⟨rfl, rfl⟩))
      all_goals
        go_ret
        refine ⟨?_, by first | exact pw_below_drewN (below_alloc (Below.refl _ _) _) _ | exact BB.out⟩
        show Ending.returned (.bool _) = Ending.returned (.bool rb)
        have gs : p.f0 = 4 := eq_of_beq e4
        have gi : inB 4 0 8 = true := rfl
        rw [← HR.out]
        simp [rightB, pendB, oscB, csiB, interB, emptyB, *]
    · have e1 : (p.f1 == (0 : Int)) = false := beq_eq_false_iff_ne.2 h1
      clear h1
      cases hq : inB p.f1 60 63 with
      | true =>
        go_enter Tryd.func34, Tryd.ntmps34
        go_wp2_with fail
        go_quiet (fail)
        go_wp2_with (first | (go_at_call 58; (with_reducible refine (in_calls _ _ _ _).mono ?_); rintro e w1 ⟨rfl, rfl⟩) | (go_at_call 60; (with_reducible refine (contains_V p.f2 A2 c2 _ (by omega) (by repeat (with_reducible first | exact HC.out | refine Kd.C_alloc ?_ _ | refine Kd.C_drewN ?_ _))).mono ?_); rintro e w3 ⟨rfl, rfl⟩))
        all_goals
          go_ret
          refine ⟨?_, by first | exact pw_below_drewN (below_alloc (Below.refl _ _) _) _ | exact BB.out⟩
          show Ending.returned (.bool _) = Ending.returned (.bool rb)
          have gs : p.f0 = 4 := eq_of_beq e4
          have gi : inB 4 0 8 = true := rfl
          rw [← HR.out]
          simp [rightB, pendB, oscB, csiB, interB, emptyB, *]
      | false =>
        go_enter Tryd.func34, Tryd.ntmps34
        go_wp2_with fail
        go_quiet (fail)
        go_wp2_with (first | (go_at_call 58; (with_reducible refine (in_calls _ _ _ _).mono ?_); rintro e w1 ⟨rfl, rfl⟩) | (go_at_call 60; (with_reducible refine (contains_V p.f2 A2 c2 _ (by omega) (by repeat (with_reducible first | exact HC.out | refine Kd.C_alloc ?_ _ | refine Kd.C_drewN ?_ _))).mono ?_); rintro e w3 ⟨rfl, rfl⟩))
        all_goals
          go_ret
          refine ⟨?_, by first | exact pw_below_drewN (below_alloc (Below.refl _ _) _) _ | exact BB.out⟩
          show Ending.returned (.bool _) = Ending.returned (.bool rb)
          have gs : p.f0 = 4 := eq_of_beq e4
          have gi : inB 4 0 8 = true := rfl
          rw [← HR.out]
          simp [rightB, pendB, oscB, csiB, interB, emptyB, *]
set_option maxRecDepth 100000 in
set_option maxHeartbeats 4000000 in
theorem right_0 (p : S52) (A2 : Option Addr) (c2 : Nat) (w : World) (hr : Kd.C (Kd.int .i64) w A2 p.f2.length p.f2) (hc : p.f2.length ≤ c2) (hs : p.f0 = 0) (hT0 : TabsAt w) :
    Calls Tryd.prog 34 #[.agg #[.int .i64 p.f0, .int .i64 p.f1, .slice A2 p.f2.length c2, .int .i64 p.f3, .string p.f4, .string p.f5]] w fun e w' => e = .returned (.bool (rightB p)) ∧ Below w.heap.size w w' := by
  obtain ⟨r1, r2, r3, hfo⟩ : ∃ r1 r2 r3, firstL p.f5.data.toList = (r1, r2, r3) := ⟨_, _, _, rfl⟩
  have fo2 := first_go p.f5 10 (by omega)
  rw [hfo] at fo2
  have FO := Aside0.mk fo2
  have hT := Aside0.mk hT0
  have hpd : (firstL p.f5.data.toList).2.2 = r3 := by rw [hfo]
  have HPD := Aside0.mk hpd
  clear fo2 hfo hT0 hpd
  have e0 : (p.f0 == (0 : Int)) = true := by simp [hs]
  have e2 : (p.f0 == (2 : Int)) = false := by rw [hs]; rfl
  have e3 : (p.f0 == (3 : Int)) = false := by rw [hs]; rfl
  have e4 : (p.f0 == (4 : Int)) = false := by rw [hs]; rfl
  have e6 : (p.f0 == (6 : Int)) = false := by rw [hs]; rfl
  have g8 : inB p.f0 0 8 = true := by rw [hs]; rfl
  have hu52 := Tryd.underlying52
  have hu50 := Tryd.underlying50
  have HC := Aside0.mk hr
  clear hr hs
  generalize hR : rightB p = rb
  have HR := Aside0.mk hR
  clear hR
  by_cases h1 : p.f1 = 0
  · have e1 : (p.f1 == (0 : Int)) = true := by simp [h1]
    clear h1
    go_enter Tryd.func34, Tryd.ntmps34
    go_wp2_with fail
    go_quiet (fail)
    go_wp2_with (first | (go_at_call 58; (with_reducible refine (in_calls _ _ _ _).mono ?_); rintro e w1 ⟨rfl, rfl⟩) | (go_at_call 12; (with_reducible refine (Go.Proofs.YthipdgnbpdngpaaDoor.P.utf_First.calls 10 p.f5 r1 r2 r3 _ FO.out (tabs_here hT.out (pw_below_drewN (below_alloc (Below.refl _ _) _) _))).mono ?_); rintro e w1 ⟨rfl, hb1⟩; have BB := Aside0.mk ((pw_below_drewN (below_alloc (Below.refl _ _) _) _).trans (hb1.mono (show w.heap.size ≤ _ from (pw_below_drewN (below_alloc (Below.refl w.heap.size w) _) _).size))); have BK1 : w1.heap[w.heap.size]? = some (.cells #[.int .i64 p.f0, .int .i64 p.f1, .slice A2 p.f2.length c2, .int .i64 p.f3, .string p.f4, .string p.f5] 52 (0, 0)) := blk_below (blk_drewN (blk_new w _) _) hb1; have q0 : w1.cell? ⟨w.heap.size, 0, none⟩ = some (.int .i64 p.f0) := blk_cell BK1 0; clear hb1 BK1))
    all_goals
      go_ret
      refine ⟨?_, by first | exact pw_below_drewN (below_alloc (Below.refl _ _) _) _ | exact BB.out⟩
      show Ending.returned (.bool _) = Ending.returned (.bool rb)
      have gs : p.f0 = 0 := eq_of_beq e0
      have gi : inB 0 0 8 = true := rfl
      rw [← HR.out]
      have hpd := HPD.out
      simp [rightB, pendB, oscB, csiB, interB, emptyB, *]
  · have e1 : (p.f1 == (0 : Int)) = false := beq_eq_false_iff_ne.2 h1
    clear h1
    go_enter Tryd.func34, Tryd.ntmps34
    go_wp2_with fail
    go_quiet (fail)
    go_wp2_with (first | (go_at_call 58; (with_reducible refine (in_calls _ _ _ _).mono ?_); rintro e w1 ⟨rfl, rfl⟩) | (go_at_call 12; (with_reducible refine (Go.Proofs.YthipdgnbpdngpaaDoor.P.utf_First.calls 10 p.f5 r1 r2 r3 _ FO.out (tabs_here hT.out (pw_below_drewN (below_alloc (Below.refl _ _) _) _))).mono ?_); rintro e w1 ⟨rfl, hb1⟩; have BB := Aside0.mk ((pw_below_drewN (below_alloc (Below.refl _ _) _) _).trans (hb1.mono (show w.heap.size ≤ _ from (pw_below_drewN (below_alloc (Below.refl w.heap.size w) _) _).size))); have BK1 : w1.heap[w.heap.size]? = some (.cells #[.int .i64 p.f0, .int .i64 p.f1, .slice A2 p.f2.length c2, .int .i64 p.f3, .string p.f4, .string p.f5] 52 (0, 0)) := blk_below (blk_drewN (blk_new w _) _) hb1; have q0 : w1.cell? ⟨w.heap.size, 0, none⟩ = some (.int .i64 p.f0) := blk_cell BK1 0; clear hb1 BK1))
    all_goals
      go_ret
      refine ⟨?_, by first | exact pw_below_drewN (below_alloc (Below.refl _ _) _) _ | exact BB.out⟩
      show Ending.returned (.bool _) = Ending.returned (.bool rb)
      have gs : p.f0 = 0 := eq_of_beq e0
      have gi : inB 0 0 8 = true := rfl
      rw [← HR.out]
      have hpd := HPD.out
      simp [rightB, pendB, oscB, csiB, interB, emptyB, *]
theorem right_calls (p : S52) (A2 : Option Addr) (c2 : Nat) (w : World) (hr : Kd.C (Kd.int .i64) w A2 p.f2.length p.f2) (hc : p.f2.length ≤ c2) (hT : TabsAt w) :
    Calls Tryd.prog 34 #[.agg #[.int .i64 p.f0, .int .i64 p.f1, .slice A2 p.f2.length c2, .int .i64 p.f3, .string p.f4, .string p.f5]] w fun e w' => e = .returned (.bool (rightB p)) ∧ Below w.heap.size w w' := by
  by_cases h0 : p.f0 = 0
  · exact right_0 p A2 c2 w hr hc h0 hT
  by_cases h2 : p.f0 = 2
  · exact right_2 p A2 c2 w hr hc h2
  by_cases h3 : p.f0 = 3
  · exact right_3 p A2 c2 w hr hc h3
  by_cases h4 : p.f0 = 4
  · exact right_4 p A2 c2 w hr hc h4
  by_cases h6 : p.f0 = 6
  · exact right_6 p A2 c2 w hr hc h6
  · exact right_o p A2 c2 w hr hc h0 h2 h3 h4 h6
end Go.Proofs.YthipdgnbpdngpaaDoor
