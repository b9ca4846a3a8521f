-- A copy of the text YthipdgnbpdngpaaDoorGRdB with what this claim does not reach left out (prune.py, a program of this project).
import Derived.Test.YthipdgnbpdngpaaDoorZpGRdA
import Derived.BigRegion
import Derived.Laws.EntriesVeiled
namespace Go.Proofs.YthipdgnbpdngpaaDoor
open Go.RowKit Go.Proofs.YthipdgnbpdngpaaDoorW.PrintWords Go.Proofs.YthipdgnbpdngpaaDoorW.PrintLast Go.Proofs.YthipdgnbpdngpaaDoorW.PrintMore S
set_option linter.unusedVariables false
set_option linter.unusedSimpArgs false
set_option maxRecDepth 100000 in
set_option maxHeartbeats 4000000 in
theorem take_exec (c : Int) (w : World) (base : Nat) (P : Nat → Prop) (B : Nat) (vP vD : Value) (p : S52) (d : List S62) (h : RS w base P B vP vD p d) (hd : d.length ≤ 1000000000) (hf5 : p.f5 = ⟨#[]⟩) (h6 : p.f0 ≠ 6) (h7 : p.f0 ≠ 7) (h24 : c ≠ 24) (h26 : c ≠ 26) (h27 : c ≠ 27) (h32 : c < 32) :
    Calls Tryd.prog 57 #[.pointer (some ⟨B, 0, none⟩), .int .i64 c] w fun e w' => e = .returned (.tuple #[]) ∧ Left w base P B vD (p) (d ++ [ex c]) w' := by
  have e6 : (p.f0 == (6 : Int)) = false := beq_eq_false_iff_ne.2 h6
  have e7 : (p.f0 == (7 : Int)) = false := beq_eq_false_iff_ne.2 h7
  have e24 : (c == (24 : Int)) = false := beq_eq_false_iff_ne.2 h24
  have e26 : (c == (26 : Int)) = false := beq_eq_false_iff_ne.2 h26
  have e27 : (c == (27 : Int)) = false := beq_eq_false_iff_ne.2 h27
  have e32 : decide (c < 32) = true := decide_eq_true h32
  have z0 : w.cell? ⟨B, 0, none⟩ = some (.int .i64 p.f0) := h.cell 0
  have z4 : w.cell? ⟨B, 4, none⟩ = some (.string p.f4) := h.cell 4
  have z5 : w.cell? ⟨B, 5, none⟩ = some (.string ⟨#[]⟩) := (h.cell 5).trans (by show some (Value.string p.f5) = _; rw [hf5])
  have H := Aside0.mk (h.below (below_alloc (Below.refl _ _) (.cells #[.func (.func 68) #[.pointer (some ⟨B, 0, none⟩)] #[], .func (.func 69) #[.pointer (some ⟨B, 0, none⟩)] #[], .func (.func 70) #[.pointer (some ⟨B, 0, none⟩)] #[], .func (.func 71) #[.pointer (some ⟨B, 0, none⟩)] #[], .func (.func 72) #[.pointer (some ⟨B, 0, none⟩)] #[], .func (.func 73) #[.pointer (some ⟨B, 0, none⟩)] #[], .func (.func 74) #[.pointer (some ⟨B, 0, none⟩)] #[], .func (.func 75) #[.pointer (some ⟨B, 0, none⟩)] #[], .func (.func 76) #[.pointer (some ⟨B, 0, none⟩)] #[]] 99)))
  have B0 := Aside0.mk ((Below.refl base w).alloc h.size (.cells #[.func (.func 68) #[.pointer (some ⟨B, 0, none⟩)] #[], .func (.func 69) #[.pointer (some ⟨B, 0, none⟩)] #[], .func (.func 70) #[.pointer (some ⟨B, 0, none⟩)] #[], .func (.func 71) #[.pointer (some ⟨B, 0, none⟩)] #[], .func (.func 72) #[.pointer (some ⟨B, 0, none⟩)] #[], .func (.func 73) #[.pointer (some ⟨B, 0, none⟩)] #[], .func (.func 74) #[.pointer (some ⟨B, 0, none⟩)] #[], .func (.func 75) #[.pointer (some ⟨B, 0, none⟩)] #[], .func (.func 76) #[.pointer (some ⟨B, 0, none⟩)] #[]] 99))
  have K0 := Aside0.mk ((Kp.refl B vD w).alloc (.cells #[.func (.func 68) #[.pointer (some ⟨B, 0, none⟩)] #[], .func (.func 69) #[.pointer (some ⟨B, 0, none⟩)] #[], .func (.func 70) #[.pointer (some ⟨B, 0, none⟩)] #[], .func (.func 71) #[.pointer (some ⟨B, 0, none⟩)] #[], .func (.func 72) #[.pointer (some ⟨B, 0, none⟩)] #[], .func (.func 73) #[.pointer (some ⟨B, 0, none⟩)] #[], .func (.func 74) #[.pointer (some ⟨B, 0, none⟩)] #[], .func (.func 75) #[.pointer (some ⟨B, 0, none⟩)] #[], .func (.func 76) #[.pointer (some ⟨B, 0, none⟩)] #[]] 99))
  have hlt : B < w.heap.size := blk_lt h.blk
  have ne2 : B ≠ w.heap.size := by omega
  have hu52 := Tryd.underlying52
  have hu62 := Tryd.underlying62
  have hu67 := Tryd.underlying67
  have hu99 := Tryd.underlying99
  have hmf : ∀ (fn : Fn) (first cap : Array Value) (w : World), (Instr.makeFunc fn first cap).run Tryd.prog w = .ok (.func fn first cap) w := fun _ _ _ _ => rfl
  clear h
  clear h6 h7 h24 h26 h27 hf5
  unfold ex
  go_enter Tryd.func57, Tryd.ntmps57
  go_wp2_with (first | (go_at_call 78; (with_reducible refine (do_plain _ _ _ _ _ _ _ base P B _ _ p d H.out hd).mono ?_); rintro e w1 ⟨rfl, vP1, vD1, h1, hb1, hk1⟩; have H1 := Aside0.mk h1; have B1 := Aside0.mk hb1; have K1 := Aside0.mk hk1; clear h1 hb1 hk1))
  go_end0
  first | exact ⟨rfl, Left.after B0.out K0.out (Left.after B1.out K1.out L.out)⟩ | exact ⟨rfl, Left.after B0.out K0.out L.out⟩ | exact ⟨rfl, Left.after B0.out K0.out ⟨_, _, H1.out, B1.out, K1.out⟩⟩ | exact ⟨rfl, _, _, H.out, B0.out, K0.out⟩
set_option maxRecDepth 100000 in
set_option maxHeartbeats 4000000 in
theorem take_cancel (c : Int) (w : World) (base : Nat) (P : Nat → Prop) (B : Nat) (vP vD : Value) (p : S52) (d : List S62) (h : RS w base P B vP vD p d) (hd : d.length ≤ 1000000000) (hf5 : p.f5 = ⟨#[]⟩) (hc : c = 24 ∨ c = 26) :
    Calls Tryd.prog 57 #[.pointer (some ⟨B, 0, none⟩), .int .i64 c] w fun e w' => e = .returned (.tuple #[]) ∧ Left w base P B vD (toF 0) (if p.f0 = 6 ∨ p.f0 = 7 then d else d ++ [ex c]) w' := by
  have z0 : w.cell? ⟨B, 0, none⟩ = some (.int .i64 p.f0) := h.cell 0
  have z4 : w.cell? ⟨B, 4, none⟩ = some (.string p.f4) := h.cell 4
  have z5 : w.cell? ⟨B, 5, none⟩ = some (.string ⟨#[]⟩) := (h.cell 5).trans (by show some (Value.string p.f5) = _; rw [hf5])
  have H := Aside0.mk (h.below (below_alloc (Below.refl _ _) (.cells #[.func (.func 68) #[.pointer (some ⟨B, 0, none⟩)] #[], .func (.func 69) #[.pointer (some ⟨B, 0, none⟩)] #[], .func (.func 70) #[.pointer (some ⟨B, 0, none⟩)] #[], .func (.func 71) #[.pointer (some ⟨B, 0, none⟩)] #[], .func (.func 72) #[.pointer (some ⟨B, 0, none⟩)] #[], .func (.func 73) #[.pointer (some ⟨B, 0, none⟩)] #[], .func (.func 74) #[.pointer (some ⟨B, 0, none⟩)] #[], .func (.func 75) #[.pointer (some ⟨B, 0, none⟩)] #[], .func (.func 76) #[.pointer (some ⟨B, 0, none⟩)] #[]] 99)))
  have B0 := Aside0.mk ((Below.refl base w).alloc h.size (.cells #[.func (.func 68) #[.pointer (some ⟨B, 0, none⟩)] #[], .func (.func 69) #[.pointer (some ⟨B, 0, none⟩)] #[], .func (.func 70) #[.pointer (some ⟨B, 0, none⟩)] #[], .func (.func 71) #[.pointer (some ⟨B, 0, none⟩)] #[], .func (.func 72) #[.pointer (some ⟨B, 0, none⟩)] #[], .func (.func 73) #[.pointer (some ⟨B, 0, none⟩)] #[], .func (.func 74) #[.pointer (some ⟨B, 0, none⟩)] #[], .func (.func 75) #[.pointer (some ⟨B, 0, none⟩)] #[], .func (.func 76) #[.pointer (some ⟨B, 0, none⟩)] #[]] 99))
  have K0 := Aside0.mk ((Kp.refl B vD w).alloc (.cells #[.func (.func 68) #[.pointer (some ⟨B, 0, none⟩)] #[], .func (.func 69) #[.pointer (some ⟨B, 0, none⟩)] #[], .func (.func 70) #[.pointer (some ⟨B, 0, none⟩)] #[], .func (.func 71) #[.pointer (some ⟨B, 0, none⟩)] #[], .func (.func 72) #[.pointer (some ⟨B, 0, none⟩)] #[], .func (.func 73) #[.pointer (some ⟨B, 0, none⟩)] #[], .func (.func 74) #[.pointer (some ⟨B, 0, none⟩)] #[], .func (.func 75) #[.pointer (some ⟨B, 0, none⟩)] #[], .func (.func 76) #[.pointer (some ⟨B, 0, none⟩)] #[]] 99))
  have hlt : B < w.heap.size := blk_lt h.blk
  have ne2 : B ≠ w.heap.size := by omega
  have hu52 := Tryd.underlying52
  have hu62 := Tryd.underlying62
  have hu67 := Tryd.underlying67
  have hu99 := Tryd.underlying99
  have hmf : ∀ (fn : Fn) (first cap : Array Value) (w : World), (Instr.makeFunc fn first cap).run Tryd.prog w = .ok (.func fn first cap) w := fun _ _ _ _ => rfl
  clear h
  clear hf5
  unfold ex
  have hx : (c == (24 : Int)) = true ∨ (c == (24 : Int)) = false ∧ (c == (26 : Int)) = true := by
    rcases hc with rfl | rfl
    · exact .inl rfl
    · exact .inr ⟨rfl, rfl⟩
  clear hc
  by_cases h6 : p.f0 = 6
  · rw [if_pos (.inl h6)]
    have e6 : (p.f0 == (6 : Int)) = true := by simp [h6]
    clear h6
    rcases hx with e24 | ⟨e24, e26⟩
    · go_enter Tryd.func57, Tryd.ntmps57
      go_wp2_with (first | (go_at_call 79; (with_reducible refine (to_calls _ _ base P B _ _ p _ (by first | exact H1.out | exact H.out)).mono ?_); rintro e w2 ⟨rfl, L2⟩; have L := Aside0.mk L2; clear L2))
      go_end0
      first | exact ⟨rfl, Left.after B0.out K0.out (Left.after B1.out K1.out L.out)⟩ | exact ⟨rfl, Left.after B0.out K0.out L.out⟩ | exact ⟨rfl, Left.after B0.out K0.out ⟨_, _, H1.out, B1.out, K1.out⟩⟩ | exact ⟨rfl, _, _, H.out, B0.out, K0.out⟩
    · go_enter Tryd.func57, Tryd.ntmps57
      go_wp2_with (first | (go_at_call 79; (with_reducible refine (to_calls _ _ base P B _ _ p _ (by first | exact H1.out | exact H.out)).mono ?_); rintro e w2 ⟨rfl, L2⟩; have L := Aside0.mk L2; clear L2))
      go_end0
      first | exact ⟨rfl, Left.after B0.out K0.out (Left.after B1.out K1.out L.out)⟩ | exact ⟨rfl, Left.after B0.out K0.out L.out⟩ | exact ⟨rfl, Left.after B0.out K0.out ⟨_, _, H1.out, B1.out, K1.out⟩⟩ | exact ⟨rfl, _, _, H.out, B0.out, K0.out⟩
  · have e6 : (p.f0 == (6 : Int)) = false := beq_eq_false_iff_ne.2 h6
    by_cases h7 : p.f0 = 7
    · rw [if_pos (.inr h7)]
      have e7 : (p.f0 == (7 : Int)) = true := by simp [h7]
      clear h6 h7
      rcases hx with e24 | ⟨e24, e26⟩
      · go_enter Tryd.func57, Tryd.ntmps57
        go_wp2_with (first | (go_at_call 79; (with_reducible refine (to_calls _ _ base P B _ _ p _ (by first | exact H1.out | exact H.out)).mono ?_); rintro e w2 ⟨rfl, L2⟩; have L := Aside0.mk L2; clear L2))
        go_end0
        first | exact ⟨rfl, Left.after B0.out K0.out (Left.after B1.out K1.out L.out)⟩ | exact ⟨rfl, Left.after B0.out K0.out L.out⟩ | exact ⟨rfl, Left.after B0.out K0.out ⟨_, _, H1.out, B1.out, K1.out⟩⟩ | exact ⟨rfl, _, _, H.out, B0.out, K0.out⟩
      · go_enter Tryd.func57, Tryd.ntmps57
        go_wp2_with (first | (go_at_call 79; (with_reducible refine (to_calls _ _ base P B _ _ p _ (by first | exact H1.out | exact H.out)).mono ?_); rintro e w2 ⟨rfl, L2⟩; have L := Aside0.mk L2; clear L2))
        go_end0
        first | exact ⟨rfl, Left.after B0.out K0.out (Left.after B1.out K1.out L.out)⟩ | exact ⟨rfl, Left.after B0.out K0.out L.out⟩ | exact ⟨rfl, Left.after B0.out K0.out ⟨_, _, H1.out, B1.out, K1.out⟩⟩ | exact ⟨rfl, _, _, H.out, B0.out, K0.out⟩
    · rw [if_neg (fun hh => hh.elim h6 h7)]
      have e7 : (p.f0 == (7 : Int)) = false := beq_eq_false_iff_ne.2 h7
      clear h6 h7
      rcases hx with e24 | ⟨e24, e26⟩
      · go_enter Tryd.func57, Tryd.ntmps57
        go_wp2_with (first | (go_at_call 78; (with_reducible refine (do_plain _ _ _ _ _ _ _ base P B _ _ p d H.out hd).mono ?_); rintro e w1 ⟨rfl, vP1, vD1, h1, hb1, hk1⟩; have H1 := Aside0.mk h1; have B1 := Aside0.mk hb1; have K1 := Aside0.mk hk1; clear h1 hb1 hk1) | (go_at_call 79; (with_reducible refine (to_calls _ _ base P B _ _ p _ (by first | exact H1.out | exact H.out)).mono ?_); rintro e w2 ⟨rfl, L2⟩; have L := Aside0.mk L2; clear L2))
        go_end0
        first | exact ⟨rfl, Left.after B0.out K0.out (Left.after B1.out K1.out L.out)⟩ | exact ⟨rfl, Left.after B0.out K0.out L.out⟩ | exact ⟨rfl, Left.after B0.out K0.out ⟨_, _, H1.out, B1.out, K1.out⟩⟩ | exact ⟨rfl, _, _, H.out, B0.out, K0.out⟩
      · go_enter Tryd.func57, Tryd.ntmps57
        go_wp2_with (first | (go_at_call 78; (with_reducible refine (do_plain _ _ _ _ _ _ _ base P B _ _ p d H.out hd).mono ?_); rintro e w1 ⟨rfl, vP1, vD1, h1, hb1, hk1⟩; have H1 := Aside0.mk h1; have B1 := Aside0.mk hb1; have K1 := Aside0.mk hk1; clear h1 hb1 hk1) | (go_at_call 79; (with_reducible refine (to_calls _ _ base P B _ _ p _ (by first | exact H1.out | exact H.out)).mono ?_); rintro e w2 ⟨rfl, L2⟩; have L := Aside0.mk L2; clear L2))
        go_end0
        first | exact ⟨rfl, Left.after B0.out K0.out (Left.after B1.out K1.out L.out)⟩ | exact ⟨rfl, Left.after B0.out K0.out L.out⟩ | exact ⟨rfl, Left.after B0.out K0.out ⟨_, _, H1.out, B1.out, K1.out⟩⟩ | exact ⟨rfl, _, _, H.out, B0.out, K0.out⟩
set_option maxRecDepth 100000 in
set_option maxHeartbeats 4000000 in
theorem take_esc (c : Int) (w : World) (base : Nat) (P : Nat → Prop) (B : Nat) (vP vD : Value) (p : S52) (d : List S62) (h : RS w base P B vP vD p d) (hd : d.length ≤ 1000000000) (hf5 : p.f5 = ⟨#[]⟩) (hc : c = 27) :
    Calls Tryd.prog 57 #[.pointer (some ⟨B, 0, none⟩), .int .i64 c] w fun e w' => e = .returned (.tuple #[]) ∧ Left w base P B vD (toF 1) (if p.f0 = 6 then d ++ [oscDo p.f4] else d) w' := by
  have z0 : w.cell? ⟨B, 0, none⟩ = some (.int .i64 p.f0) := h.cell 0
  have z4 : w.cell? ⟨B, 4, none⟩ = some (.string p.f4) := h.cell 4
  have z5 : w.cell? ⟨B, 5, none⟩ = some (.string ⟨#[]⟩) := (h.cell 5).trans (by show some (Value.string p.f5) = _; rw [hf5])
  have H := Aside0.mk (h.below (below_alloc (Below.refl _ _) (.cells #[.func (.func 68) #[.pointer (some ⟨B, 0, none⟩)] #[], .func (.func 69) #[.pointer (some ⟨B, 0, none⟩)] #[], .func (.func 70) #[.pointer (some ⟨B, 0, none⟩)] #[], .func (.func 71) #[.pointer (some ⟨B, 0, none⟩)] #[], .func (.func 72) #[.pointer (some ⟨B, 0, none⟩)] #[], .func (.func 73) #[.pointer (some ⟨B, 0, none⟩)] #[], .func (.func 74) #[.pointer (some ⟨B, 0, none⟩)] #[], .func (.func 75) #[.pointer (some ⟨B, 0, none⟩)] #[], .func (.func 76) #[.pointer (some ⟨B, 0, none⟩)] #[]] 99)))
  have B0 := Aside0.mk ((Below.refl base w).alloc h.size (.cells #[.func (.func 68) #[.pointer (some ⟨B, 0, none⟩)] #[], .func (.func 69) #[.pointer (some ⟨B, 0, none⟩)] #[], .func (.func 70) #[.pointer (some ⟨B, 0, none⟩)] #[], .func (.func 71) #[.pointer (some ⟨B, 0, none⟩)] #[], .func (.func 72) #[.pointer (some ⟨B, 0, none⟩)] #[], .func (.func 73) #[.pointer (some ⟨B, 0, none⟩)] #[], .func (.func 74) #[.pointer (some ⟨B, 0, none⟩)] #[], .func (.func 75) #[.pointer (some ⟨B, 0, none⟩)] #[], .func (.func 76) #[.pointer (some ⟨B, 0, none⟩)] #[]] 99))
  have K0 := Aside0.mk ((Kp.refl B vD w).alloc (.cells #[.func (.func 68) #[.pointer (some ⟨B, 0, none⟩)] #[], .func (.func 69) #[.pointer (some ⟨B, 0, none⟩)] #[], .func (.func 70) #[.pointer (some ⟨B, 0, none⟩)] #[], .func (.func 71) #[.pointer (some ⟨B, 0, none⟩)] #[], .func (.func 72) #[.pointer (some ⟨B, 0, none⟩)] #[], .func (.func 73) #[.pointer (some ⟨B, 0, none⟩)] #[], .func (.func 74) #[.pointer (some ⟨B, 0, none⟩)] #[], .func (.func 75) #[.pointer (some ⟨B, 0, none⟩)] #[], .func (.func 76) #[.pointer (some ⟨B, 0, none⟩)] #[]] 99))
  have hlt : B < w.heap.size := blk_lt h.blk
  have ne2 : B ≠ w.heap.size := by omega
  have hu52 := Tryd.underlying52
  have hu62 := Tryd.underlying62
  have hu67 := Tryd.underlying67
  have hu99 := Tryd.underlying99
  have hmf : ∀ (fn : Fn) (first cap : Array Value) (w : World), (Instr.makeFunc fn first cap).run Tryd.prog w = .ok (.func fn first cap) w := fun _ _ _ _ => rfl
  clear h
  clear hf5
  unfold oscDo
  have e24 : (c == (24 : Int)) = false := by subst hc; rfl
  have e26 : (c == (26 : Int)) = false := by subst hc; rfl
  have e27 : (c == (27 : Int)) = true := by subst hc; rfl
  clear hc
  by_cases h6 : p.f0 = 6
  · rw [if_pos h6]
    have e6 : (p.f0 == (6 : Int)) = true := by simp [h6]
    clear h6
    go_enter Tryd.func57, Tryd.ntmps57
    go_wp2_with (first | (go_at_call 78; (with_reducible refine (do_plain _ _ _ _ _ _ _ base P B _ _ p d H.out hd).mono ?_); rintro e w1 ⟨rfl, vP1, vD1, h1, hb1, hk1⟩; have H1 := Aside0.mk h1; have B1 := Aside0.mk hb1; have K1 := Aside0.mk hk1; clear h1 hb1 hk1) | (go_at_call 79; (with_reducible refine (to_calls _ _ base P B _ _ p _ (by first | exact H1.out | exact H.out)).mono ?_); rintro e w2 ⟨rfl, L2⟩; have L := Aside0.mk L2; clear L2))
    go_end0
    first | exact ⟨rfl, Left.after B0.out K0.out (Left.after B1.out K1.out L.out)⟩ | exact ⟨rfl, Left.after B0.out K0.out L.out⟩ | exact ⟨rfl, Left.after B0.out K0.out ⟨_, _, H1.out, B1.out, K1.out⟩⟩ | exact ⟨rfl, _, _, H.out, B0.out, K0.out⟩
  · rw [if_neg h6]
    have e6 : (p.f0 == (6 : Int)) = false := beq_eq_false_iff_ne.2 h6
    clear h6
    by_cases h7 : p.f0 = 7
    · have e7 : (p.f0 == (7 : Int)) = true := by simp [h7]
      clear h7
      go_enter Tryd.func57, Tryd.ntmps57
      go_wp2_with (first | (go_at_call 79; (with_reducible refine (to_calls _ _ base P B _ _ p _ (by first | exact H1.out | exact H.out)).mono ?_); rintro e w2 ⟨rfl, L2⟩; have L := Aside0.mk L2; clear L2))
      go_end0
      first | exact ⟨rfl, Left.after B0.out K0.out (Left.after B1.out K1.out L.out)⟩ | exact ⟨rfl, Left.after B0.out K0.out L.out⟩ | exact ⟨rfl, Left.after B0.out K0.out ⟨_, _, H1.out, B1.out, K1.out⟩⟩ | exact ⟨rfl, _, _, H.out, B0.out, K0.out⟩
    · have e7 : (p.f0 == (7 : Int)) = false := beq_eq_false_iff_ne.2 h7
      clear h7
      go_enter Tryd.func57, Tryd.ntmps57
      go_wp2_with (first | (go_at_call 79; (with_reducible refine (to_calls _ _ base P B _ _ p _ (by first | exact H1.out | exact H.out)).mono ?_); rintro e w2 ⟨rfl, L2⟩; have L := Aside0.mk L2; clear L2))
      go_end0
      first | exact ⟨rfl, Left.after B0.out K0.out (Left.after B1.out K1.out L.out)⟩ | exact ⟨rfl, Left.after B0.out K0.out L.out⟩ | exact ⟨rfl, Left.after B0.out K0.out ⟨_, _, H1.out, B1.out, K1.out⟩⟩ | exact ⟨rfl, _, _, H.out, B0.out, K0.out⟩
end Go.Proofs.YthipdgnbpdngpaaDoor
