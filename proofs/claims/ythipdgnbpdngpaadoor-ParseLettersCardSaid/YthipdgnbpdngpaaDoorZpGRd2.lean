-- A copy of the text YthipdgnbpdngpaaDoorGRd2 with what this claim does not reach left out (prune.py, a program of this project).
import Derived.Test.YthipdgnbpdngpaaDoorZpGRd1
namespace Go.Proofs.YthipdgnbpdngpaaDoor
open Go.RowKit Go.Proofs.YthipdgnbpdngpaaDoorW.PrintWords Go.Proofs.YthipdgnbpdngpaaDoorW.PrintLast Go.Proofs.YthipdgnbpdngpaaDoorW.PrintMore S
set_option linter.unusedVariables false
set_option linter.unusedSimpArgs false
def inB (n a b : Int) : Bool := decide (a ≤ n) && decide (n ≤ b)
set_option maxRecDepth 100000 in
set_option maxHeartbeats 4000000 in
theorem in_calls (n a b : Int) (w : World) : Calls Tryd.prog 58 #[.int .i64 n, .int .i64 a, .int .i64 b] w fun e w' => e = .returned (.bool (inB n a b)) ∧ w = w' := by
  unfold inB
  by_cases h1 : a ≤ n
  · have g1 : n ≥ a := h1
    by_cases h2 : n ≤ b
    · have d1 : decide (n ≥ a) = true := decide_eq_true g1
      have d2 : decide (n ≤ b) = true := decide_eq_true h2
      go_enter Tryd.func58, Tryd.ntmps58
      go_wp2
      go_ret
      exact ⟨by simp [h1, h2], rfl⟩
    · have d1 : decide (n ≥ a) = true := decide_eq_true g1
      have d2 : decide (n ≤ b) = false := decide_eq_false h2
      go_enter Tryd.func58, Tryd.ntmps58
      go_wp2
      go_ret
      exact ⟨by simp [h1, h2], rfl⟩
  · have d1 : decide (n ≥ a) = false := decide_eq_false h1
    go_enter Tryd.func58, Tryd.ntmps58
    go_wp2
    go_ret
    exact ⟨by simp [h1], rfl⟩
set_option maxRecDepth 100000 in
set_option maxHeartbeats 4000000 in
theorem nothing_calls (b c : Value) (w : World) : Calls Tryd.prog 75 #[b, c] w fun e w' => e = .returned (.tuple #[]) ∧ w = w' := by
  go_enter Tryd.func75, Tryd.ntmps75
  go_wp2
  go_end0
  exact ⟨rfl, rfl⟩
section
variable (f0 f1 f2 f3 f5 : Int) (f6 : ByteArray) (w : World) (base : Nat) (P : Nat → Prop) (B : Nat) (vP vD : Value) (p : S52) (d : List S62)
theorem do_plain (h : RS w base P B vP vD p d) (hd : d.length ≤ 1000000000) :
    Calls Tryd.prog 78 #[.pointer (some ⟨B, 0, none⟩), .agg #[.int .i64 f0, .int .i32 f1, .int .i64 f2, .int .i64 f3, .slice none 0 0, .int .i64 f5, .string f6]] w fun e w' => e = .returned (.tuple #[]) ∧ Left w base P B vD p (d ++ [⟨f0, f1, f2, f3, [], f5, f6⟩]) w' :=
  do_calls ⟨f0, f1, f2, f3, [], f5, f6⟩ none 0 w base P B vP vD p d h (Kd.V_nil _ _ _ _ _) hd
theorem do_row (A4 : Option Addr) (c4 n4 : Nat) (l4 : List Int) (h : RS w base P B vP vD p d) (hx : Kd.V (Kd.int .i64) 3 w base (fun k => ((P k ∨ base ≤ k) ∧ k ≠ B) ∧ some k ≠ vD.ownBlock) (.slice A4 n4 c4) l4) (hd : d.length ≤ 1000000000) :
    Calls Tryd.prog 78 #[.pointer (some ⟨B, 0, none⟩), .agg #[.int .i64 f0, .int .i32 f1, .int .i64 f2, .int .i64 f3, .slice A4 n4 c4, .int .i64 f5, .string f6]] w fun e w' => e = .returned (.tuple #[]) ∧ Left w base P B vD p (d ++ [⟨f0, f1, f2, f3, l4, f5, f6⟩]) w' := by
  obtain rfl := (Kd.V_at hx).1
  exact do_calls ⟨f0, f1, f2, f3, l4, f5, f6⟩ A4 c4 w base P B vP vD p d h hx hd
end
def endsP (p : S52) (c : Int) : S52 := if c = 127 then p else toF 0
def endsD (p : S52) (d : List S62) (c least : Int) : List S62 := if inB c least 126 = true then d ++ [⟨3, 0, c, 0, [], p.f3, ⟨#[]⟩⟩] else d
set_option maxRecDepth 100000 in
set_option maxHeartbeats 4000000 in
theorem ends_calls (c least : Int) (w : World) (base : Nat) (P : Nat → Prop) (B : Nat) (vP vD : Value) (p : S52) (d : List S62) (h : RS w base P B vP vD p d) (hd : d.length ≤ 1000000000) :
    Calls Tryd.prog 86 #[.pointer (some ⟨B, 0, none⟩), .int .i64 c, .int .i64 least] w fun e w' => e = .returned (.tuple #[]) ∧ Left w base P B vD (endsP p c) (endsD p d c least) w' := by
  have z3 : w.cell? ⟨B, 3, none⟩ = some (.int .i64 p.f3) := h.cell 3
  have zf3 : w.frozen? ⟨B, 3, none⟩ = false := h.frozen 3
  have H := Aside0.mk h
  have hu52 := Tryd.underlying52
  have hu62 := Tryd.underlying62
  clear h
  unfold endsP endsD
  by_cases t2 : inB c least 126 = true
  · rw [if_pos t2]
    by_cases t4 : c = 127
    · rw [if_pos t4]
      have t4a : (c == (127 : Int)) = true := by simp [t4]
      have t4b : (c != (127 : Int)) = false := by simp [t4]
      clear t4
      go_enter Tryd.func86, Tryd.ntmps86
      go_wp2_with (first | (go_at_call 58; (with_reducible refine (in_calls _ _ _ _).mono ?_); rintro e w1 ⟨rfl, rfl⟩) | (go_at_call 78; (with_reducible refine (do_plain _ _ _ _ _ _ _ base P B _ _ p d H.out hd).mono ?_); rintro e w1 ⟨rfl, vP1, vD1, h1, hb1, hk1⟩; have H1 := Aside0.mk h1; have B1 := Aside0.mk hb1; have K1 := Aside0.mk hk1; clear h1 hb1 hk1) | (go_at_call 79; (with_reducible refine (to_calls _ _ base P B _ _ p _ (by first | exact H1.out | exact H.out)).mono ?_); rintro e w2 ⟨rfl, L2⟩; have L := Aside0.mk L2; clear L2))
      all_goals
        first | go_end0 | ((try simp only [Exit.inBlock, Exit.then]); refine bodyPost_ret (results_none rfl _ _ _) rfl ?_)
        first | exact ⟨rfl, Left.after B1.out K1.out L.out⟩ | exact ⟨rfl, L.out⟩ | exact ⟨rfl, _, _, H1.out, B1.out, K1.out⟩ | exact ⟨rfl, _, _, H.out, Below.refl _ _, Kp.refl _ _ _⟩
    · rw [if_neg t4]
      have t4a : (c == (127 : Int)) = false := by simp [t4]
      have t4b : (c != (127 : Int)) = true := by simp [t4]
      clear t4
      go_enter Tryd.func86, Tryd.ntmps86
      go_wp2_with (first | (go_at_call 58; (with_reducible refine (in_calls _ _ _ _).mono ?_); rintro e w1 ⟨rfl, rfl⟩) | (go_at_call 78; (with_reducible refine (do_plain _ _ _ _ _ _ _ base P B _ _ p d H.out hd).mono ?_); rintro e w1 ⟨rfl, vP1, vD1, h1, hb1, hk1⟩; have H1 := Aside0.mk h1; have B1 := Aside0.mk hb1; have K1 := Aside0.mk hk1; clear h1 hb1 hk1) | (go_at_call 79; (with_reducible refine (to_calls _ _ base P B _ _ p _ (by first | exact H1.out | exact H.out)).mono ?_); rintro e w2 ⟨rfl, L2⟩; have L := Aside0.mk L2; clear L2))
      all_goals
        first | go_end0 | ((try simp only [Exit.inBlock, Exit.then]); refine bodyPost_ret (results_none rfl _ _ _) rfl ?_)
        first | exact ⟨rfl, Left.after B1.out K1.out L.out⟩ | exact ⟨rfl, L.out⟩ | exact ⟨rfl, _, _, H1.out, B1.out, K1.out⟩ | exact ⟨rfl, _, _, H.out, Below.refl _ _, Kp.refl _ _ _⟩
  · rw [if_neg t2]; replace t2 := eq_false_of_ne_true t2
    by_cases t4 : c = 127
    · rw [if_pos t4]
      have t4a : (c == (127 : Int)) = true := by simp [t4]
      have t4b : (c != (127 : Int)) = false := by simp [t4]
      clear t4
      go_enter Tryd.func86, Tryd.ntmps86
      go_wp2_with (first | (go_at_call 58; (with_reducible refine (in_calls _ _ _ _).mono ?_); rintro e w1 ⟨rfl, rfl⟩) | (go_at_call 78; (with_reducible refine (do_plain _ _ _ _ _ _ _ base P B _ _ p d H.out hd).mono ?_); rintro e w1 ⟨rfl, vP1, vD1, h1, hb1, hk1⟩; have H1 := Aside0.mk h1; have B1 := Aside0.mk hb1; have K1 := Aside0.mk hk1; clear h1 hb1 hk1) | (go_at_call 79; (with_reducible refine (to_calls _ _ base P B _ _ p _ (by first | exact H1.out | exact H.out)).mono ?_); rintro e w2 ⟨rfl, L2⟩; have L := Aside0.mk L2; clear L2))
      all_goals
        first | go_end0 | ((try simp only [Exit.inBlock, Exit.then]); refine bodyPost_ret (results_none rfl _ _ _) rfl ?_)
        first | exact ⟨rfl, Left.after B1.out K1.out L.out⟩ | exact ⟨rfl, L.out⟩ | exact ⟨rfl, _, _, H1.out, B1.out, K1.out⟩ | exact ⟨rfl, _, _, H.out, Below.refl _ _, Kp.refl _ _ _⟩
    · rw [if_neg t4]
      have t4a : (c == (127 : Int)) = false := by simp [t4]
      have t4b : (c != (127 : Int)) = true := by simp [t4]
      clear t4
      go_enter Tryd.func86, Tryd.ntmps86
      go_wp2_with (first | (go_at_call 58; (with_reducible refine (in_calls _ _ _ _).mono ?_); rintro e w1 ⟨rfl, rfl⟩) | (go_at_call 78; (with_reducible refine (do_plain _ _ _ _ _ _ _ base P B _ _ p d H.out hd).mono ?_); rintro e w1 ⟨rfl, vP1, vD1, h1, hb1, hk1⟩; have H1 := Aside0.mk h1; have B1 := Aside0.mk hb1; have K1 := Aside0.mk hk1; clear h1 hb1 hk1) | (go_at_call 79; (with_reducible refine (to_calls _ _ base P B _ _ p _ (by first | exact H1.out | exact H.out)).mono ?_); rintro e w2 ⟨rfl, L2⟩; have L := Aside0.mk L2; clear L2))
      all_goals
        first | go_end0 | ((try simp only [Exit.inBlock, Exit.then]); refine bodyPost_ret (results_none rfl _ _ _) rfl ?_)
        first | exact ⟨rfl, Left.after B1.out K1.out L.out⟩ | exact ⟨rfl, L.out⟩ | exact ⟨rfl, _, _, H1.out, B1.out, K1.out⟩ | exact ⟨rfl, _, _, H.out, Below.refl _ _, Kp.refl _ _ _⟩
def interP (p : S52) (c : Int) : S52 := if inB c 32 47 = true then toF 8 else endsP p c
def interD (p : S52) (d : List S62) (c : Int) : List S62 := if inB c 32 47 = true then d else endsD p d c 48
set_option maxRecDepth 100000 in
set_option maxHeartbeats 4000000 in
theorem inter_calls (c : Int) (w : World) (base : Nat) (P : Nat → Prop) (B : Nat) (vP vD : Value) (p : S52) (d : List S62) (h : RS w base P B vP vD p d) (hd : d.length ≤ 1000000000) :
    Calls Tryd.prog 70 #[.pointer (some ⟨B, 0, none⟩), .int .i64 c] w fun e w' => e = .returned (.tuple #[]) ∧ Left w base P B vD (interP p c) (interD p d c) w' := by
  have H := Aside0.mk h
  have hu52 := Tryd.underlying52
  have hu62 := Tryd.underlying62
  clear h
  unfold interP interD
  by_cases t2 : inB c 32 47 = true
  · rw [if_pos t2]
    go_enter Tryd.func70, Tryd.ntmps70
    go_wp2_with (first | (go_at_call 58; (with_reducible refine (in_calls _ _ _ _).mono ?_); rintro e w1 ⟨rfl, rfl⟩) | (go_at_call 79; (with_reducible refine (to_calls _ _ base P B _ _ p _ (by first | exact H1.out | exact H.out)).mono ?_); rintro e w2 ⟨rfl, L2⟩; have L := Aside0.mk L2; clear L2) | (go_at_call 86; (with_reducible refine (ends_calls _ _ _ base P B _ _ p d H.out hd).mono ?_); rintro e w2 ⟨rfl, L2⟩; have L := Aside0.mk L2; clear L2))
    all_goals
      first | go_end0 | ((try simp only [Exit.inBlock, Exit.then]); refine bodyPost_ret (results_none rfl _ _ _) rfl ?_)
      first | exact ⟨rfl, Left.after B1.out K1.out L.out⟩ | exact ⟨rfl, L.out⟩ | exact ⟨rfl, _, _, H1.out, B1.out, K1.out⟩ | exact ⟨rfl, _, _, H.out, Below.refl _ _, Kp.refl _ _ _⟩
  · rw [if_neg t2]; replace t2 := eq_false_of_ne_true t2
    go_enter Tryd.func70, Tryd.ntmps70
    go_wp2_with (first | (go_at_call 58; (with_reducible refine (in_calls _ _ _ _).mono ?_); rintro e w1 ⟨rfl, rfl⟩) | (go_at_call 79; (with_reducible refine (to_calls _ _ base P B _ _ p _ (by first | exact H1.out | exact H.out)).mono ?_); rintro e w2 ⟨rfl, L2⟩; have L := Aside0.mk L2; clear L2) | (go_at_call 86; (with_reducible refine (ends_calls _ _ _ base P B _ _ p d H.out hd).mono ?_); rintro e w2 ⟨rfl, L2⟩; have L := Aside0.mk L2; clear L2))
    all_goals
      first | go_end0 | ((try simp only [Exit.inBlock, Exit.then]); refine bodyPost_ret (results_none rfl _ _ _) rfl ?_)
      first | exact ⟨rfl, Left.after B1.out K1.out L.out⟩ | exact ⟨rfl, L.out⟩ | exact ⟨rfl, _, _, H1.out, B1.out, K1.out⟩ | exact ⟨rfl, _, _, H.out, Below.refl _ _, Kp.refl _ _ _⟩
def skipP (p : S52) (c : Int) : S52 := if inB c 64 126 = true then toF 0 else p
set_option maxRecDepth 100000 in
set_option maxHeartbeats 4000000 in
theorem skip_calls (c : Int) (w : World) (base : Nat) (P : Nat → Prop) (B : Nat) (vP vD : Value) (p : S52) (d : List S62) (h : RS w base P B vP vD p d) (hd : d.length ≤ 1000000000) :
    Calls Tryd.prog 73 #[.pointer (some ⟨B, 0, none⟩), .int .i64 c] w fun e w' => e = .returned (.tuple #[]) ∧ Left w base P B vD (skipP p c) (d) w' := by
  have H := Aside0.mk h
  have hu52 := Tryd.underlying52
  have hu62 := Tryd.underlying62
  clear h
  unfold skipP
  by_cases t2 : inB c 64 126 = true
  · rw [if_pos t2]
    go_enter Tryd.func73, Tryd.ntmps73
    go_wp2_with (first | (go_at_call 58; (with_reducible refine (in_calls _ _ _ _).mono ?_); rintro e w1 ⟨rfl, rfl⟩) | (go_at_call 79; (with_reducible refine (to_calls _ _ base P B _ _ p _ (by first | exact H1.out | exact H.out)).mono ?_); rintro e w2 ⟨rfl, L2⟩; have L := Aside0.mk L2; clear L2))
    all_goals
      first | go_end0 | ((try simp only [Exit.inBlock, Exit.then]); refine bodyPost_ret (results_none rfl _ _ _) rfl ?_)
      first | exact ⟨rfl, Left.after B1.out K1.out L.out⟩ | exact ⟨rfl, L.out⟩ | exact ⟨rfl, _, _, H1.out, B1.out, K1.out⟩ | exact ⟨rfl, _, _, H.out, Below.refl _ _, Kp.refl _ _ _⟩
  · rw [if_neg t2]; replace t2 := eq_false_of_ne_true t2
    go_enter Tryd.func73, Tryd.ntmps73
    go_wp2_with (first | (go_at_call 58; (with_reducible refine (in_calls _ _ _ _).mono ?_); rintro e w1 ⟨rfl, rfl⟩) | (go_at_call 79; (with_reducible refine (to_calls _ _ base P B _ _ p _ (by first | exact H1.out | exact H.out)).mono ?_); rintro e w2 ⟨rfl, L2⟩; have L := Aside0.mk L2; clear L2))
    all_goals
      first | go_end0 | ((try simp only [Exit.inBlock, Exit.then]); refine bodyPost_ret (results_none rfl _ _ _) rfl ?_)
      first | exact ⟨rfl, Left.after B1.out K1.out L.out⟩ | exact ⟨rfl, L.out⟩ | exact ⟨rfl, _, _, H1.out, B1.out, K1.out⟩ | exact ⟨rfl, _, _, H.out, Below.refl _ _, Kp.refl _ _ _⟩
def dropP (p : S52) (c : Int) : S52 := if inB c 48 126 = true then toF 0 else if 128 ≤ c then toF 0 else p
set_option maxRecDepth 100000 in
set_option maxHeartbeats 4000000 in
theorem drop_calls (c : Int) (w : World) (base : Nat) (P : Nat → Prop) (B : Nat) (vP vD : Value) (p : S52) (d : List S62) (h : RS w base P B vP vD p d) (hd : d.length ≤ 1000000000) :
    Calls Tryd.prog 76 #[.pointer (some ⟨B, 0, none⟩), .int .i64 c] w fun e w' => e = .returned (.tuple #[]) ∧ Left w base P B vD (dropP p c) (d) w' := by
  have H := Aside0.mk h
  have hu52 := Tryd.underlying52
  have hu62 := Tryd.underlying62
  clear h
  unfold dropP
  by_cases t2 : inB c 48 126 = true
  · rw [if_pos t2]
    go_enter Tryd.func76, Tryd.ntmps76
    go_wp2_with (first | (go_at_call 58; (with_reducible refine (in_calls _ _ _ _).mono ?_); rintro e w1 ⟨rfl, rfl⟩) | (go_at_call 79; (with_reducible refine (to_calls _ _ base P B _ _ p _ (by first | exact H1.out | exact H.out)).mono ?_); rintro e w2 ⟨rfl, L2⟩; have L := Aside0.mk L2; clear L2))
    all_goals
      first | go_end0 | ((try simp only [Exit.inBlock, Exit.then]); refine bodyPost_ret (results_none rfl _ _ _) rfl ?_)
      first | exact ⟨rfl, Left.after B1.out K1.out L.out⟩ | exact ⟨rfl, L.out⟩ | exact ⟨rfl, _, _, H1.out, B1.out, K1.out⟩ | exact ⟨rfl, _, _, H.out, Below.refl _ _, Kp.refl _ _ _⟩
  · rw [if_neg t2]; replace t2 := eq_false_of_ne_true t2
    by_cases t4 : 128 ≤ c
    · rw [if_pos t4]
      have t4a : decide (c ≥ 128) = true := decide_eq_true t4
      go_enter Tryd.func76, Tryd.ntmps76
      go_wp2_with (first | (go_at_call 58; (with_reducible refine (in_calls _ _ _ _).mono ?_); rintro e w1 ⟨rfl, rfl⟩) | (go_at_call 79; (with_reducible refine (to_calls _ _ base P B _ _ p _ (by first | exact H1.out | exact H.out)).mono ?_); rintro e w2 ⟨rfl, L2⟩; have L := Aside0.mk L2; clear L2))
      all_goals
        first | go_end0 | ((try simp only [Exit.inBlock, Exit.then]); refine bodyPost_ret (results_none rfl _ _ _) rfl ?_)
        first | exact ⟨rfl, Left.after B1.out K1.out L.out⟩ | exact ⟨rfl, L.out⟩ | exact ⟨rfl, _, _, H1.out, B1.out, K1.out⟩ | exact ⟨rfl, _, _, H.out, Below.refl _ _, Kp.refl _ _ _⟩
    · rw [if_neg t4]
      have t4a : decide (c ≥ 128) = false := decide_eq_false t4
      go_enter Tryd.func76, Tryd.ntmps76
      go_wp2_with (first | (go_at_call 58; (with_reducible refine (in_calls _ _ _ _).mono ?_); rintro e w1 ⟨rfl, rfl⟩) | (go_at_call 79; (with_reducible refine (to_calls _ _ base P B _ _ p _ (by first | exact H1.out | exact H.out)).mono ?_); rintro e w2 ⟨rfl, L2⟩; have L := Aside0.mk L2; clear L2))
      all_goals
        first | go_end0 | ((try simp only [Exit.inBlock, Exit.then]); refine bodyPost_ret (results_none rfl _ _ _) rfl ?_)
        first | exact ⟨rfl, Left.after B1.out K1.out L.out⟩ | exact ⟨rfl, L.out⟩ | exact ⟨rfl, _, _, H1.out, B1.out, K1.out⟩ | exact ⟨rfl, _, _, H.out, Below.refl _ _, Kp.refl _ _ _⟩
end Go.Proofs.YthipdgnbpdngpaaDoor
