-- A copy of the text YthipdgnbpdngpaaDoorGRd8 with what this claim does not reach left out (prune.py, a program of this project).
import Derived.Test.YthipdgnbpdngpaaDoorZpGRd7
import Derived.BigRegion
namespace Go.Proofs.YthipdgnbpdngpaaDoor
open Go.RowKit Go.Proofs.YthipdgnbpdngpaaDoorW.PrintWords Go.Proofs.YthipdgnbpdngpaaDoorW.PrintLast Go.Proofs.YthipdgnbpdngpaaDoorW.PrintMore S
set_option linter.unusedVariables false
set_option linter.unusedSimpArgs false
def escR (p : S52) (d : List S62) (c : Int) : S52 × List S62 :=
  if inB c 32 47 = true then (⟨2, 0, [], c, ⟨#[]⟩, ⟨#[]⟩⟩, d) else if c = 91 then (toF 3, d) else if c = 93 then (toF 6, d) else if c = 80 then (toF 7, d) else if c = 88 then (toF 7, d) else if c = 94 then (toF 7, d) else if c = 95 then (toF 7, d) else (endsP p c, endsD p d c 48)
set_option maxRecDepth 100000 in
set_option maxHeartbeats 4000000 in
theorem escape_calls (c : Int) (w : World) (base : Nat) (P : Nat → Prop) (B : Nat) (vP vD : Value) (p : S52) (d : List S62) (h : RS w base P B vP vD p d) (hd : d.length ≤ 1000000000) :
    Calls Tryd.prog 69 #[.pointer (some ⟨B, 0, none⟩), .int .i64 c] w fun e w' => e = .returned (.tuple #[]) ∧ Left w base P B vD ((escR p d c).1) ((escR p d c).2) w' := by
  have H := Aside0.mk h
  have hu52 := Tryd.underlying52
  have hu62 := Tryd.underlying62
  clear h
  unfold escR
  by_cases t2 : inB c 32 47 = true
  · rw [if_pos t2]
    go_enter Tryd.func69, Tryd.ntmps69
    go_wp2_with (first | (go_at_call 58; (with_reducible refine (in_calls _ _ _ _).mono ?_); rintro e w1 ⟨rfl, rfl⟩) | (go_at_call 79; (with_reducible refine (to_calls _ _ base P B _ _ p _ H.out).mono ?_); rintro e w2 ⟨rfl, vP2, vD2, h2, hb2, hk2⟩; have y3 : w2.cell? ⟨B, 3, none⟩ = some (.int .i64 0) := h2.cell 3; have yf3 : w2.frozen? ⟨B, 3, none⟩ = false := h2.frozen 3; have H2 := Aside0.mk h2; have B2 := Aside0.mk hb2; have K2 := Aside0.mk hk2; clear h2 hb2 hk2) | (go_at_call 86; (with_reducible refine (ends_calls _ _ _ base P B _ _ p d H.out hd).mono ?_); rintro e w2 ⟨rfl, L2⟩; have L := Aside0.mk L2; clear L2))
    all_goals
      first | go_end0 | ((try simp only [Exit.inBlock, Exit.then]); refine bodyPost_ret (results_none rfl _ _ _) rfl ?_)
      exact ⟨rfl, _, _, H2.out.put 3 (.int .i64 c) ⟨2, 0, [], c, ⟨#[]⟩, ⟨#[]⟩⟩ rfl rfl, B2.out.setCell H2.out.low _, K2.out.put _ _⟩
  · rw [if_neg t2]; replace t2 := eq_false_of_ne_true t2
    by_cases t4 : c = 91
    · rw [if_pos t4]
      have t4a : (c == (91 : Int)) = true := by simp [t4]
      have t4b : (c != (91 : Int)) = false := by simp [t4]
      clear t4
      go_enter Tryd.func69, Tryd.ntmps69
      go_wp2_with (first | (go_at_call 58; (with_reducible refine (in_calls _ _ _ _).mono ?_); rintro e w1 ⟨rfl, rfl⟩) | (go_at_call 79; (with_reducible refine (to_calls _ _ base P B _ _ p _ (by first | exact H1.out | exact H.out)).mono ?_); rintro e w2 ⟨rfl, L2⟩; have L := Aside0.mk L2; clear L2) | (go_at_call 86; (with_reducible refine (ends_calls _ _ _ base P B _ _ p d H.out hd).mono ?_); rintro e w2 ⟨rfl, L2⟩; have L := Aside0.mk L2; clear L2))
      all_goals
        first | go_end0 | ((try simp only [Exit.inBlock, Exit.then]); refine bodyPost_ret (results_none rfl _ _ _) rfl ?_)
        first | exact ⟨rfl, Left.after B1.out K1.out L.out⟩ | exact ⟨rfl, L.out⟩ | exact ⟨rfl, _, _, H1.out, B1.out, K1.out⟩ | exact ⟨rfl, _, _, H.out, Below.refl _ _, Kp.refl _ _ _⟩
    · rw [if_neg t4]
      by_cases t6 : c = 93
      · rw [if_pos t6]
        have t4a : (c == (91 : Int)) = false := by simp [t4]
        have t4b : (c != (91 : Int)) = true := by simp [t4]
        clear t4
        have t6a : (c == (93 : Int)) = true := by simp [t6]
        have t6b : (c != (93 : Int)) = false := by simp [t6]
        clear t6
        go_enter Tryd.func69, Tryd.ntmps69
        go_wp2_with (first | (go_at_call 58; (with_reducible refine (in_calls _ _ _ _).mono ?_); rintro e w1 ⟨rfl, rfl⟩) | (go_at_call 79; (with_reducible refine (to_calls _ _ base P B _ _ p _ (by first | exact H1.out | exact H.out)).mono ?_); rintro e w2 ⟨rfl, L2⟩; have L := Aside0.mk L2; clear L2) | (go_at_call 86; (with_reducible refine (ends_calls _ _ _ base P B _ _ p d H.out hd).mono ?_); rintro e w2 ⟨rfl, L2⟩; have L := Aside0.mk L2; clear L2))
        all_goals
          first | go_end0 | ((try simp only [Exit.inBlock, Exit.then]); refine bodyPost_ret (results_none rfl _ _ _) rfl ?_)
          first | exact ⟨rfl, Left.after B1.out K1.out L.out⟩ | exact ⟨rfl, L.out⟩ | exact ⟨rfl, _, _, H1.out, B1.out, K1.out⟩ | exact ⟨rfl, _, _, H.out, Below.refl _ _, Kp.refl _ _ _⟩
      · rw [if_neg t6]
        by_cases t8 : c = 80
        · rw [if_pos t8]
          have t4a : (c == (91 : Int)) = false := by simp [t4]
          have t4b : (c != (91 : Int)) = true := by simp [t4]
          clear t4
          have t6a : (c == (93 : Int)) = false := by simp [t6]
          have t6b : (c != (93 : Int)) = true := by simp [t6]
          clear t6
          have t8a : (c == (80 : Int)) = true := by simp [t8]
          have t8b : (c != (80 : Int)) = false := by simp [t8]
          clear t8
          go_enter Tryd.func69, Tryd.ntmps69
          go_wp2_with (first | (go_at_call 58; (with_reducible refine (in_calls _ _ _ _).mono ?_); rintro e w1 ⟨rfl, rfl⟩) | (go_at_call 79; (with_reducible refine (to_calls _ _ base P B _ _ p _ (by first | exact H1.out | exact H.out)).mono ?_); rintro e w2 ⟨rfl, L2⟩; have L := Aside0.mk L2; clear L2) | (go_at_call 86; (with_reducible refine (ends_calls _ _ _ base P B _ _ p d H.out hd).mono ?_); rintro e w2 ⟨rfl, L2⟩; have L := Aside0.mk L2; clear L2))
          all_goals
            first | go_end0 | ((try simp only [Exit.inBlock, Exit.then]); refine bodyPost_ret (results_none rfl _ _ _) rfl ?_)
            first | exact ⟨rfl, Left.after B1.out K1.out L.out⟩ | exact ⟨rfl, L.out⟩ | exact ⟨rfl, _, _, H1.out, B1.out, K1.out⟩ | exact ⟨rfl, _, _, H.out, Below.refl _ _, Kp.refl _ _ _⟩
        · rw [if_neg t8]
          by_cases t10 : c = 88
          · rw [if_pos t10]
            have t4a : (c == (91 : Int)) = false := by simp [t4]
            have t4b : (c != (91 : Int)) = true := by simp [t4]
            clear t4
            have t6a : (c == (93 : Int)) = false := by simp [t6]
            have t6b : (c != (93 : Int)) = true := by simp [t6]
            clear t6
            have t8a : (c == (80 : Int)) = false := by simp [t8]
            have t8b : (c != (80 : Int)) = true := by simp [t8]
            clear t8
            have t10a : (c == (88 : Int)) = true := by simp [t10]
            have t10b : (c != (88 : Int)) = false := by simp [t10]
            clear t10
            go_enter Tryd.func69, Tryd.ntmps69
            go_wp2_with (first | (go_at_call 58; (with_reducible refine (in_calls _ _ _ _).mono ?_); rintro e w1 ⟨rfl, rfl⟩) | (go_at_call 79; (with_reducible refine (to_calls _ _ base P B _ _ p _ (by first | exact H1.out | exact H.out)).mono ?_); rintro e w2 ⟨rfl, L2⟩; have L := Aside0.mk L2; clear L2) | (go_at_call 86; (with_reducible refine (ends_calls _ _ _ base P B _ _ p d H.out hd).mono ?_); rintro e w2 ⟨rfl, L2⟩; have L := Aside0.mk L2; clear L2))
            all_goals
              first | go_end0 | ((try simp only [Exit.inBlock, Exit.then]); refine bodyPost_ret (results_none rfl _ _ _) rfl ?_)
              first | exact ⟨rfl, Left.after B1.out K1.out L.out⟩ | exact ⟨rfl, L.out⟩ | exact ⟨rfl, _, _, H1.out, B1.out, K1.out⟩ | exact ⟨rfl, _, _, H.out, Below.refl _ _, Kp.refl _ _ _⟩
          · rw [if_neg t10]
            by_cases t12 : c = 94
            · rw [if_pos t12]
              have t4a : (c == (91 : Int)) = false := by simp [t4]
              have t4b : (c != (91 : Int)) = true := by simp [t4]
              clear t4
              have t6a : (c == (93 : Int)) = false := by simp [t6]
              have t6b : (c != (93 : Int)) = true := by simp [t6]
              clear t6
              have t8a : (c == (80 : Int)) = false := by simp [t8]
              have t8b : (c != (80 : Int)) = true := by simp [t8]
              clear t8
              have t10a : (c == (88 : Int)) = false := by simp [t10]
              have t10b : (c != (88 : Int)) = true := by simp [t10]
              clear t10
              have t12a : (c == (94 : Int)) = true := by simp [t12]
              have t12b : (c != (94 : Int)) = false := by simp [t12]
              clear t12
              go_enter Tryd.func69, Tryd.ntmps69
              go_wp2_with (first | (go_at_call 58; (with_reducible refine (in_calls _ _ _ _).mono ?_); rintro e w1 ⟨rfl, rfl⟩) | (go_at_call 79; (with_reducible refine (to_calls _ _ base P B _ _ p _ (by first | exact H1.out | exact H.out)).mono ?_); rintro e w2 ⟨rfl, L2⟩; have L := Aside0.mk L2; clear L2) | (go_at_call 86; (with_reducible refine (ends_calls _ _ _ base P B _ _ p d H.out hd).mono ?_); rintro e w2 ⟨rfl, L2⟩; have L := Aside0.mk L2; clear L2))
              all_goals
                first | go_end0 | ((try simp only [Exit.inBlock, Exit.then]); refine bodyPost_ret (results_none rfl _ _ _) rfl ?_)
                first | exact ⟨rfl, Left.after B1.out K1.out L.out⟩ | exact ⟨rfl, L.out⟩ | exact ⟨rfl, _, _, H1.out, B1.out, K1.out⟩ | exact ⟨rfl, _, _, H.out, Below.refl _ _, Kp.refl _ _ _⟩
            · rw [if_neg t12]
              by_cases t14 : c = 95
              · rw [if_pos t14]
                have t4a : (c == (91 : Int)) = false := by simp [t4]
                have t4b : (c != (91 : Int)) = true := by simp [t4]
                clear t4
                have t6a : (c == (93 : Int)) = false := by simp [t6]
                have t6b : (c != (93 : Int)) = true := by simp [t6]
                clear t6
                have t8a : (c == (80 : Int)) = false := by simp [t8]
                have t8b : (c != (80 : Int)) = true := by simp [t8]
                clear t8
                have t10a : (c == (88 : Int)) = false := by simp [t10]
                have t10b : (c != (88 : Int)) = true := by simp [t10]
                clear t10
                have t12a : (c == (94 : Int)) = false := by simp [t12]
                have t12b : (c != (94 : Int)) = true := by simp [t12]
                clear t12
                have t14a : (c == (95 : Int)) = true := by simp [t14]
                have t14b : (c != (95 : Int)) = false := by simp [t14]
                clear t14
                go_enter Tryd.func69, Tryd.ntmps69
                go_wp2_with (first | (go_at_call 58; (with_reducible refine (in_calls _ _ _ _).mono ?_); rintro e w1 ⟨rfl, rfl⟩) | (go_at_call 79; (with_reducible refine (to_calls _ _ base P B _ _ p _ (by first | exact H1.out | exact H.out)).mono ?_); rintro e w2 ⟨rfl, L2⟩; have L := Aside0.mk L2; clear L2) | (go_at_call 86; (with_reducible refine (ends_calls _ _ _ base P B _ _ p d H.out hd).mono ?_); rintro e w2 ⟨rfl, L2⟩; have L := Aside0.mk L2; clear L2))
                all_goals
                  first | go_end0 | ((try simp only [Exit.inBlock, Exit.then]); refine bodyPost_ret (results_none rfl _ _ _) rfl ?_)
                  first | exact ⟨rfl, Left.after B1.out K1.out L.out⟩ | exact ⟨rfl, L.out⟩ | exact ⟨rfl, _, _, H1.out, B1.out, K1.out⟩ | exact ⟨rfl, _, _, H.out, Below.refl _ _, Kp.refl _ _ _⟩
              · rw [if_neg t14]
                have t4a : (c == (91 : Int)) = false := by simp [t4]
                have t4b : (c != (91 : Int)) = true := by simp [t4]
                clear t4
                have t6a : (c == (93 : Int)) = false := by simp [t6]
                have t6b : (c != (93 : Int)) = true := by simp [t6]
                clear t6
                have t8a : (c == (80 : Int)) = false := by simp [t8]
                have t8b : (c != (80 : Int)) = true := by simp [t8]
                clear t8
                have t10a : (c == (88 : Int)) = false := by simp [t10]
                have t10b : (c != (88 : Int)) = true := by simp [t10]
                clear t10
                have t12a : (c == (94 : Int)) = false := by simp [t12]
                have t12b : (c != (94 : Int)) = true := by simp [t12]
                clear t12
                have t14a : (c == (95 : Int)) = false := by simp [t14]
                have t14b : (c != (95 : Int)) = true := by simp [t14]
                clear t14
                go_enter Tryd.func69, Tryd.ntmps69
                go_wp2_with (first | (go_at_call 58; (with_reducible refine (in_calls _ _ _ _).mono ?_); rintro e w1 ⟨rfl, rfl⟩) | (go_at_call 79; (with_reducible refine (to_calls _ _ base P B _ _ p _ (by first | exact H1.out | exact H.out)).mono ?_); rintro e w2 ⟨rfl, L2⟩; have L := Aside0.mk L2; clear L2) | (go_at_call 86; (with_reducible refine (ends_calls _ _ _ base P B _ _ p d H.out hd).mono ?_); rintro e w2 ⟨rfl, L2⟩; have L := Aside0.mk L2; clear L2))
                all_goals
                  first | go_end0 | ((try simp only [Exit.inBlock, Exit.then]); refine bodyPost_ret (results_none rfl _ _ _) rfl ?_)
                  first | exact ⟨rfl, Left.after B1.out K1.out L.out⟩ | exact ⟨rfl, L.out⟩ | exact ⟨rfl, _, _, H1.out, B1.out, K1.out⟩ | exact ⟨rfl, _, _, H.out, Below.refl _ _, Kp.refl _ _ _⟩
def oscR (p : S52) (d : List S62) (c : Int) : S52 × List S62 :=
  if c = 7 then (toF 0, d ++ [⟨5, 0, 0, 0, [], 0, p.f4⟩]) else if 32 ≤ c ∧ p.f4.size < 64 then (⟨p.f0, p.f1, p.f2, p.f3, p.f4 ++ strOfNums [c], p.f5⟩, d) else (p, d)
theorem conv1 (W : World) (u : Int) : (convert 67 9 (.slice (some ⟨W.heap.size, 0, none⟩) 1 1)).run Tryd.prog (W.alloc (.cells #[.int .u8 u] 5)) = .ok (.string (strOfNums [u])) (W.alloc (.cells #[.int .u8 u] 5)) :=
  run_convert_bytes_arg _ 67 5 Tryd.underlying67 Tryd.underlying5 W.heap.size 0 1 1 [u] rfl (fun i hi => by
    obtain rfl : i = 0 := by omega
    have := blk_cell (blk_new W (.cells #[.int .u8 u] 5)) 0
    exact this) 9 Tryd.underlying9
theorem conv1d (W : World) (u : Int) : (convert 67 9 (.slice (some ⟨W.heap.size, 0, none⟩) 1 1)).run Tryd.prog (W.alloc (.cells #[.int .u8 u] 5)).drew = .ok (.string (strOfNums [u])) (W.alloc (.cells #[.int .u8 u] 5)).drew :=
  run_convert_bytes_arg _ 67 5 Tryd.underlying67 Tryd.underlying5 W.heap.size 0 1 1 [u] rfl (fun i hi => by
    obtain rfl : i = 0 := by omega
    have := blk_cell (w := (W.alloc (.cells #[.int .u8 u] 5)).drew) (blk_new W (.cells #[.int .u8 u] 5)) 0
    exact this) 9 Tryd.underlying9
set_option maxRecDepth 100000 in
set_option maxHeartbeats 4000000 in
theorem osc_calls (c : Int) (w : World) (base : Nat) (P : Nat → Prop) (B : Nat) (vP vD : Value) (p : S52) (d : List S62) (h : RS w base P B vP vD p d) (hd : d.length ≤ 1000000000) (hc0 : 0 ≤ c) (hc1 : c ≤ 255) (hs : p.f4.size ≤ 64) :
    Calls Tryd.prog 74 #[.pointer (some ⟨B, 0, none⟩), .int .i64 c] w fun e w' => e = .returned (.tuple #[]) ∧ Left w base P B vD (oscR p d c).1 (oscR p d c).2 w' := by
  have z4 : w.cell? ⟨B, 4, none⟩ = some (.string p.f4) := h.cell 4
  have zf4 : w.frozen? ⟨B, 4, none⟩ = false := h.frozen 4
  have H := Aside0.mk h
  have hu52 := Tryd.underlying52
  have hu62 := Tryd.underlying62
  have hu67 := Tryd.underlying67
  have hlt : B < w.heap.size := blk_lt h.blk
  clear h
  unfold oscR
  by_cases t7 : c = 7
  · rw [if_pos t7]
    have ta : (c == (7 : Int)) = true := by simp [t7]
    clear t7 hc0 hc1
    go_enter Tryd.func74, Tryd.ntmps74
    go_wp2_with (first | (go_at_call 78; (with_reducible refine (do_plain _ _ _ _ _ _ _ base P B _ _ p d H.out hd).mono ?_); rintro e w1 ⟨rfl, vP1, vD1, h1, hb1, hk1⟩; have H1 := Aside0.mk h1; have B1 := Aside0.mk hb1; have K1 := Aside0.mk hk1; clear h1 hb1 hk1) | (go_at_call 79; (with_reducible refine (to_calls _ _ base P B _ _ p _ (by first | exact H1.out | exact H.out)).mono ?_); rintro e w2 ⟨rfl, L2⟩; have L := Aside0.mk L2; clear L2))
    go_end0
    first | exact ⟨rfl, Left.after B1.out K1.out L.out⟩ | exact ⟨rfl, L.out⟩ | exact ⟨rfl, _, _, H1.out, B1.out, K1.out⟩ | exact ⟨rfl, _, _, H.out, Below.refl _ _, Kp.refl _ _ _⟩
  · rw [if_neg t7]
    have ta : (c == (7 : Int)) = false := by simp [t7]
    clear t7
    by_cases t32 : 32 ≤ c
    · have tb : decide (c ≥ 32) = true := decide_eq_true t32
      by_cases t64 : p.f4.size < 64
      · rw [if_pos ⟨t32, t64⟩]
        have tc : decide ((p.f4.size : Int) < 64) = true := decide_eq_true (by omega)
        have hcv := conv1 w c
        have hcd := conv1d w c
        have hw8 : IntKind.u8.wrap c = c := IntWalk.u8_in _ (by omega)
        have hsum : ¬ 9223372036854775807 < p.f4.size + (strOfNums [c]).size := by rw [strOfNums_size]; simp; omega
        have ne2 : B ≠ w.heap.size := by omega
        have ya4 : ∀ o, (w.alloc o).cell? ⟨B, 4, none⟩ = some (.string p.f4) := fun o => blk_cell (blk_alloc H.out.blk o) 4
        have yf4 : ∀ o, (w.alloc o).frozen? ⟨B, 4, none⟩ = false := fun o => blk_frozen (blk_alloc H.out.blk o) 4
        clear t64 t32
        go_enter Tryd.func74, Tryd.ntmps74
        go_wp2_with fail
        go_region
        go_wp2
        go_end0
        have R1 := H.out.put 4 (.string (p.f4 ++ strOfNums [c])) ⟨p.f0, p.f1, p.f2, p.f3, p.f4 ++ strOfNums [c], p.f5⟩ rfl rfl
        exact ⟨rfl, _, _, (R1.below (below_alloc (Below.refl _ _) _)).drew, (((Below.refl base w).setCell H.out.low _).alloc R1.size _).drew, (((Kp.refl B vD w).put _ _).alloc _).drew⟩
      · rw [if_neg (fun hh => t64 hh.2)]
        have tc : decide ((p.f4.size : Int) < 64) = false := decide_eq_false (by omega)
        clear t64 t32
        go_enter Tryd.func74, Tryd.ntmps74
        go_wp2_with fail
        go_end0
        first | exact ⟨rfl, Left.after B1.out K1.out L.out⟩ | exact ⟨rfl, L.out⟩ | exact ⟨rfl, _, _, H1.out, B1.out, K1.out⟩ | exact ⟨rfl, _, _, H.out, Below.refl _ _, Kp.refl _ _ _⟩
    · rw [if_neg (fun hh => t32 hh.1)]
      have tb : decide (c ≥ 32) = false := decide_eq_false t32
      clear t32
      go_enter Tryd.func74, Tryd.ntmps74
      go_wp2_with fail
      go_end0
      first | exact ⟨rfl, Left.after B1.out K1.out L.out⟩ | exact ⟨rfl, L.out⟩ | exact ⟨rfl, _, _, H1.out, B1.out, K1.out⟩ | exact ⟨rfl, _, _, H.out, Below.refl _ _, Kp.refl _ _ _⟩
end Go.Proofs.YthipdgnbpdngpaaDoor
