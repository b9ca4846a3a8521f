-- A copy of the text YthipdgnbpdngpaaDoorGRdC with what this claim does not reach left out (prune.py, a program of this project).
import Derived.Test.YthipdgnbpdngpaaDoorZpGRdB
import Derived.BigRegion
import Derived.Laws.EntriesVeiled
namespace Go.Proofs.YthipdgnbpdngpaaDoor
open Go.RowKit Go.Proofs.YthipdgnbpdngpaaDoorW.PrintWords Go.Proofs.YthipdgnbpdngpaaDoorW.PrintLast Go.Proofs.YthipdgnbpdngpaaDoorW.PrintMore S
set_option linter.unusedVariables false
set_option linter.unusedSimpArgs false
set_option maxRecDepth 100000 in
set_option maxHeartbeats 4000000 in
theorem take_s0 {pend : S52 → List S62 → S52 × List S62} {ok : S52 → List S62 → Prop} (hP0 : PendC pend ok) (c : Int) (w : World) (base : Nat) (P : Nat → Prop) (B : Nat) (vP vD : Value) (p : S52) (d : List S62) (h : RS w base P B vP vD p d) (hd : d.length ≤ 1000000000) (hf5 : p.f5 = ⟨#[]⟩) (hf0 : p.f0 = 0) (h24 : c ≠ 24) (h26 : c ≠ 26) (h27 : c ≠ 27) (h32 : 32 ≤ c) (hT0 : TabsAt w) (h20 : 2 ≤ base) (hok0 : 128 ≤ c → ok (pendAs p (strOfNums [c])) d) (hc0 : 0 ≤ c) (hc1 : c ≤ 255) :
    Calls Tryd.prog 57 #[.pointer (some ⟨B, 0, none⟩), .int .i64 c] w fun e w' => e = .returned (.tuple #[]) ∧ Left w base P B vD ((groundR pend p d c).1) ((groundR pend p d c).2) w' := by
  have hP := Aside0.mk hP0
  have hT := Aside0.mk hT0
  have h2 := Aside0.mk h20
  have hok := Aside0.mk hok0
  clear hP0 hT0 h20 hok0
  have e24 : (c == (24 : Int)) = false := beq_eq_false_iff_ne.2 h24
  have e26 : (c == (26 : Int)) = false := beq_eq_false_iff_ne.2 h26
  have e27 : (c == (27 : Int)) = false := beq_eq_false_iff_ne.2 h27
  have z0 : w.cell? ⟨B, 0, none⟩ = some (.int .i64 0) := (h.cell 0).trans (by show some (Value.int .i64 p.f0) = _; rw [hf0])
  have z4 : w.cell? ⟨B, 4, none⟩ = some (.string p.f4) := h.cell 4
  have z5 : w.cell? ⟨B, 5, none⟩ = some (.string ⟨#[]⟩) := (h.cell 5).trans (by show some (Value.string p.f5) = _; rw [hf5])
  have H := Aside0.mk (h.below (below_alloc (Below.refl _ _) (.cells #[.func (.func 68) #[.pointer (some ⟨B, 0, none⟩)] #[], .func (.func 69) #[.pointer (some ⟨B, 0, none⟩)] #[], .func (.func 70) #[.pointer (some ⟨B, 0, none⟩)] #[], .func (.func 71) #[.pointer (some ⟨B, 0, none⟩)] #[], .func (.func 72) #[.pointer (some ⟨B, 0, none⟩)] #[], .func (.func 73) #[.pointer (some ⟨B, 0, none⟩)] #[], .func (.func 74) #[.pointer (some ⟨B, 0, none⟩)] #[], .func (.func 75) #[.pointer (some ⟨B, 0, none⟩)] #[], .func (.func 76) #[.pointer (some ⟨B, 0, none⟩)] #[]] 99)))
  have B0 := Aside0.mk ((Below.refl base w).alloc h.size (.cells #[.func (.func 68) #[.pointer (some ⟨B, 0, none⟩)] #[], .func (.func 69) #[.pointer (some ⟨B, 0, none⟩)] #[], .func (.func 70) #[.pointer (some ⟨B, 0, none⟩)] #[], .func (.func 71) #[.pointer (some ⟨B, 0, none⟩)] #[], .func (.func 72) #[.pointer (some ⟨B, 0, none⟩)] #[], .func (.func 73) #[.pointer (some ⟨B, 0, none⟩)] #[], .func (.func 74) #[.pointer (some ⟨B, 0, none⟩)] #[], .func (.func 75) #[.pointer (some ⟨B, 0, none⟩)] #[], .func (.func 76) #[.pointer (some ⟨B, 0, none⟩)] #[]] 99))
  have K0 := Aside0.mk ((Kp.refl B vD w).alloc (.cells #[.func (.func 68) #[.pointer (some ⟨B, 0, none⟩)] #[], .func (.func 69) #[.pointer (some ⟨B, 0, none⟩)] #[], .func (.func 70) #[.pointer (some ⟨B, 0, none⟩)] #[], .func (.func 71) #[.pointer (some ⟨B, 0, none⟩)] #[], .func (.func 72) #[.pointer (some ⟨B, 0, none⟩)] #[], .func (.func 73) #[.pointer (some ⟨B, 0, none⟩)] #[], .func (.func 74) #[.pointer (some ⟨B, 0, none⟩)] #[], .func (.func 75) #[.pointer (some ⟨B, 0, none⟩)] #[], .func (.func 76) #[.pointer (some ⟨B, 0, none⟩)] #[]] 99))
  have hlt : B < w.heap.size := blk_lt h.blk
  have ne2 : B ≠ w.heap.size := by omega
  have hu52 := Tryd.underlying52
  have hu62 := Tryd.underlying62
  have hu67 := Tryd.underlying67
  have hu99 := Tryd.underlying99
  have hmf : ∀ (fn : Fn) (first cap : Array Value) (w : World), (Instr.makeFunc fn first cap).run Tryd.prog w = .ok (.func fn first cap) w := fun _ _ _ _ => rfl
  clear h
  clear h24 h26 h27 hf5 hf0
  have e32 : decide (c < 32) = false := decide_eq_false (by omega)
  go_enter Tryd.func57, Tryd.ntmps57
  go_wp2_with (first | (go_at_call 68; (with_reducible refine (ground_calls hP.out c _ base P B _ _ p d H.out hd hc0 hc1 (tabs_below hT.out h2.out B0.out) h2.out hok.out).mono ?_); rintro e w2 ⟨rfl, L2⟩; have L := Aside0.mk L2; clear L2))
  go_end0
  first | exact ⟨rfl, Left.after B0.out K0.out (Left.after B1.out K1.out L.out)⟩ | exact ⟨rfl, Left.after B0.out K0.out L.out⟩ | exact ⟨rfl, Left.after B0.out K0.out ⟨_, _, H1.out, B1.out, K1.out⟩⟩ | exact ⟨rfl, _, _, H.out, B0.out, K0.out⟩
set_option maxRecDepth 100000 in
set_option maxHeartbeats 4000000 in
theorem take_s1 (c : Int) (w : World) (base : Nat) (P : Nat → Prop) (B : Nat) (vP vD : Value) (p : S52) (d : List S62) (h : RS w base P B vP vD p d) (hd : d.length ≤ 1000000000) (hf5 : p.f5 = ⟨#[]⟩) (hf0 : p.f0 = 1) (h24 : c ≠ 24) (h26 : c ≠ 26) (h27 : c ≠ 27) (h32 : 32 ≤ c) :
    Calls Tryd.prog 57 #[.pointer (some ⟨B, 0, none⟩), .int .i64 c] w fun e w' => e = .returned (.tuple #[]) ∧ Left w base P B vD ((escR p d c).1) ((escR p d c).2) w' := by
  have e24 : (c == (24 : Int)) = false := beq_eq_false_iff_ne.2 h24
  have e26 : (c == (26 : Int)) = false := beq_eq_false_iff_ne.2 h26
  have e27 : (c == (27 : Int)) = false := beq_eq_false_iff_ne.2 h27
  have z0 : w.cell? ⟨B, 0, none⟩ = some (.int .i64 1) := (h.cell 0).trans (by show some (Value.int .i64 p.f0) = _; rw [hf0])
  have z4 : w.cell? ⟨B, 4, none⟩ = some (.string p.f4) := h.cell 4
  have z5 : w.cell? ⟨B, 5, none⟩ = some (.string ⟨#[]⟩) := (h.cell 5).trans (by show some (Value.string p.f5) = _; rw [hf5])
  have H := Aside0.mk (h.below (below_alloc (Below.refl _ _) (.cells #[.func (.func 68) #[.pointer (some ⟨B, 0, none⟩)] #[], .func (.func 69) #[.pointer (some ⟨B, 0, none⟩)] #[], .func (.func 70) #[.pointer (some ⟨B, 0, none⟩)] #[], .func (.func 71) #[.pointer (some ⟨B, 0, none⟩)] #[], .func (.func 72) #[.pointer (some ⟨B, 0, none⟩)] #[], .func (.func 73) #[.pointer (some ⟨B, 0, none⟩)] #[], .func (.func 74) #[.pointer (some ⟨B, 0, none⟩)] #[], .func (.func 75) #[.pointer (some ⟨B, 0, none⟩)] #[], .func (.func 76) #[.pointer (some ⟨B, 0, none⟩)] #[]] 99)))
  have B0 := Aside0.mk ((Below.refl base w).alloc h.size (.cells #[.func (.func 68) #[.pointer (some ⟨B, 0, none⟩)] #[], .func (.func 69) #[.pointer (some ⟨B, 0, none⟩)] #[], .func (.func 70) #[.pointer (some ⟨B, 0, none⟩)] #[], .func (.func 71) #[.pointer (some ⟨B, 0, none⟩)] #[], .func (.func 72) #[.pointer (some ⟨B, 0, none⟩)] #[], .func (.func 73) #[.pointer (some ⟨B, 0, none⟩)] #[], .func (.func 74) #[.pointer (some ⟨B, 0, none⟩)] #[], .func (.func 75) #[.pointer (some ⟨B, 0, none⟩)] #[], .func (.func 76) #[.pointer (some ⟨B, 0, none⟩)] #[]] 99))
  have K0 := Aside0.mk ((Kp.refl B vD w).alloc (.cells #[.func (.func 68) #[.pointer (some ⟨B, 0, none⟩)] #[], .func (.func 69) #[.pointer (some ⟨B, 0, none⟩)] #[], .func (.func 70) #[.pointer (some ⟨B, 0, none⟩)] #[], .func (.func 71) #[.pointer (some ⟨B, 0, none⟩)] #[], .func (.func 72) #[.pointer (some ⟨B, 0, none⟩)] #[], .func (.func 73) #[.pointer (some ⟨B, 0, none⟩)] #[], .func (.func 74) #[.pointer (some ⟨B, 0, none⟩)] #[], .func (.func 75) #[.pointer (some ⟨B, 0, none⟩)] #[], .func (.func 76) #[.pointer (some ⟨B, 0, none⟩)] #[]] 99))
  have hlt : B < w.heap.size := blk_lt h.blk
  have ne2 : B ≠ w.heap.size := by omega
  have hu52 := Tryd.underlying52
  have hu62 := Tryd.underlying62
  have hu67 := Tryd.underlying67
  have hu99 := Tryd.underlying99
  have hmf : ∀ (fn : Fn) (first cap : Array Value) (w : World), (Instr.makeFunc fn first cap).run Tryd.prog w = .ok (.func fn first cap) w := fun _ _ _ _ => rfl
  clear h
  clear h24 h26 h27 hf5 hf0
  have e32 : decide (c < 32) = false := decide_eq_false (by omega)
  go_enter Tryd.func57, Tryd.ntmps57
  go_wp2_with (first | (go_at_call 69; (with_reducible refine (escape_calls c _ base P B _ _ p d H.out hd).mono ?_); rintro e w2 ⟨rfl, L2⟩; have L := Aside0.mk L2; clear L2))
  go_end0
  first | exact ⟨rfl, Left.after B0.out K0.out (Left.after B1.out K1.out L.out)⟩ | exact ⟨rfl, Left.after B0.out K0.out L.out⟩ | exact ⟨rfl, Left.after B0.out K0.out ⟨_, _, H1.out, B1.out, K1.out⟩⟩ | exact ⟨rfl, _, _, H.out, B0.out, K0.out⟩
set_option maxRecDepth 100000 in
set_option maxHeartbeats 4000000 in
theorem take_s2 (c : Int) (w : World) (base : Nat) (P : Nat → Prop) (B : Nat) (vP vD : Value) (p : S52) (d : List S62) (h : RS w base P B vP vD p d) (hd : d.length ≤ 1000000000) (hf5 : p.f5 = ⟨#[]⟩) (hf0 : p.f0 = 2) (h24 : c ≠ 24) (h26 : c ≠ 26) (h27 : c ≠ 27) (h32 : 32 ≤ c) :
    Calls Tryd.prog 57 #[.pointer (some ⟨B, 0, none⟩), .int .i64 c] w fun e w' => e = .returned (.tuple #[]) ∧ Left w base P B vD (interP p c) (interD p d c) w' := by
  have e24 : (c == (24 : Int)) = false := beq_eq_false_iff_ne.2 h24
  have e26 : (c == (26 : Int)) = false := beq_eq_false_iff_ne.2 h26
  have e27 : (c == (27 : Int)) = false := beq_eq_false_iff_ne.2 h27
  have z0 : w.cell? ⟨B, 0, none⟩ = some (.int .i64 2) := (h.cell 0).trans (by show some (Value.int .i64 p.f0) = _; rw [hf0])
  have z4 : w.cell? ⟨B, 4, none⟩ = some (.string p.f4) := h.cell 4
  have z5 : w.cell? ⟨B, 5, none⟩ = some (.string ⟨#[]⟩) := (h.cell 5).trans (by show some (Value.string p.f5) = _; rw [hf5])
  have H := Aside0.mk (h.below (below_alloc (Below.refl _ _) (.cells #[.func (.func 68) #[.pointer (some ⟨B, 0, none⟩)] #[], .func (.func 69) #[.pointer (some ⟨B, 0, none⟩)] #[], .func (.func 70) #[.pointer (some ⟨B, 0, none⟩)] #[], .func (.func 71) #[.pointer (some ⟨B, 0, none⟩)] #[], .func (.func 72) #[.pointer (some ⟨B, 0, none⟩)] #[], .func (.func 73) #[.pointer (some ⟨B, 0, none⟩)] #[], .func (.func 74) #[.pointer (some ⟨B, 0, none⟩)] #[], .func (.func 75) #[.pointer (some ⟨B, 0, none⟩)] #[], .func (.func 76) #[.pointer (some ⟨B, 0, none⟩)] #[]] 99)))
  have B0 := Aside0.mk ((Below.refl base w).alloc h.size (.cells #[.func (.func 68) #[.pointer (some ⟨B, 0, none⟩)] #[], .func (.func 69) #[.pointer (some ⟨B, 0, none⟩)] #[], .func (.func 70) #[.pointer (some ⟨B, 0, none⟩)] #[], .func (.func 71) #[.pointer (some ⟨B, 0, none⟩)] #[], .func (.func 72) #[.pointer (some ⟨B, 0, none⟩)] #[], .func (.func 73) #[.pointer (some ⟨B, 0, none⟩)] #[], .func (.func 74) #[.pointer (some ⟨B, 0, none⟩)] #[], .func (.func 75) #[.pointer (some ⟨B, 0, none⟩)] #[], .func (.func 76) #[.pointer (some ⟨B, 0, none⟩)] #[]] 99))
  have K0 := Aside0.mk ((Kp.refl B vD w).alloc (.cells #[.func (.func 68) #[.pointer (some ⟨B, 0, none⟩)] #[], .func (.func 69) #[.pointer (some ⟨B, 0, none⟩)] #[], .func (.func 70) #[.pointer (some ⟨B, 0, none⟩)] #[], .func (.func 71) #[.pointer (some ⟨B, 0, none⟩)] #[], .func (.func 72) #[.pointer (some ⟨B, 0, none⟩)] #[], .func (.func 73) #[.pointer (some ⟨B, 0, none⟩)] #[], .func (.func 74) #[.pointer (some ⟨B, 0, none⟩)] #[], .func (.func 75) #[.pointer (some ⟨B, 0, none⟩)] #[], .func (.func 76) #[.pointer (some ⟨B, 0, none⟩)] #[]] 99))
  have hlt : B < w.heap.size := blk_lt h.blk
  have ne2 : B ≠ w.heap.size := by omega
  have hu52 := Tryd.underlying52
  have hu62 := Tryd.underlying62
  have hu67 := Tryd.underlying67
  have hu99 := Tryd.underlying99
  have hmf : ∀ (fn : Fn) (first cap : Array Value) (w : World), (Instr.makeFunc fn first cap).run Tryd.prog w = .ok (.func fn first cap) w := fun _ _ _ _ => rfl
  clear h
  clear h24 h26 h27 hf5 hf0
  have e32 : decide (c < 32) = false := decide_eq_false (by omega)
  go_enter Tryd.func57, Tryd.ntmps57
  go_wp2_with (first | (go_at_call 70; (with_reducible refine (inter_calls c _ base P B _ _ p d H.out hd).mono ?_); rintro e w2 ⟨rfl, L2⟩; have L := Aside0.mk L2; clear L2))
  go_end0
  first | exact ⟨rfl, Left.after B0.out K0.out (Left.after B1.out K1.out L.out)⟩ | exact ⟨rfl, Left.after B0.out K0.out L.out⟩ | exact ⟨rfl, Left.after B0.out K0.out ⟨_, _, H1.out, B1.out, K1.out⟩⟩ | exact ⟨rfl, _, _, H.out, B0.out, K0.out⟩
set_option maxRecDepth 100000 in
set_option maxHeartbeats 4000000 in
theorem take_s3 (c : Int) (w : World) (base : Nat) (P : Nat → Prop) (B : Nat) (vP vD : Value) (p : S52) (d : List S62) (h : RS w base P B vP vD p d) (hd : d.length ≤ 1000000000) (hf5 : p.f5 = ⟨#[]⟩) (hf0 : p.f0 = 3) (h24 : c ≠ 24) (h26 : c ≠ 26) (h27 : c ≠ 27) (h32 : 32 ≤ c) (hpar0 : parOk p.f2) :
    Calls Tryd.prog 57 #[.pointer (some ⟨B, 0, none⟩), .int .i64 c] w fun e w' => e = .returned (.tuple #[]) ∧ Left w base P B vD (csiP p c) (csiD p d c) w' := by
  have hpar := Aside0.mk hpar0
  clear hpar0
  have e24 : (c == (24 : Int)) = false := beq_eq_false_iff_ne.2 h24
  have e26 : (c == (26 : Int)) = false := beq_eq_false_iff_ne.2 h26
  have e27 : (c == (27 : Int)) = false := beq_eq_false_iff_ne.2 h27
  have z0 : w.cell? ⟨B, 0, none⟩ = some (.int .i64 3) := (h.cell 0).trans (by show some (Value.int .i64 p.f0) = _; rw [hf0])
  have z4 : w.cell? ⟨B, 4, none⟩ = some (.string p.f4) := h.cell 4
  have z5 : w.cell? ⟨B, 5, none⟩ = some (.string ⟨#[]⟩) := (h.cell 5).trans (by show some (Value.string p.f5) = _; rw [hf5])
  have H := Aside0.mk (h.below (below_alloc (Below.refl _ _) (.cells #[.func (.func 68) #[.pointer (some ⟨B, 0, none⟩)] #[], .func (.func 69) #[.pointer (some ⟨B, 0, none⟩)] #[], .func (.func 70) #[.pointer (some ⟨B, 0, none⟩)] #[], .func (.func 71) #[.pointer (some ⟨B, 0, none⟩)] #[], .func (.func 72) #[.pointer (some ⟨B, 0, none⟩)] #[], .func (.func 73) #[.pointer (some ⟨B, 0, none⟩)] #[], .func (.func 74) #[.pointer (some ⟨B, 0, none⟩)] #[], .func (.func 75) #[.pointer (some ⟨B, 0, none⟩)] #[], .func (.func 76) #[.pointer (some ⟨B, 0, none⟩)] #[]] 99)))
  have B0 := Aside0.mk ((Below.refl base w).alloc h.size (.cells #[.func (.func 68) #[.pointer (some ⟨B, 0, none⟩)] #[], .func (.func 69) #[.pointer (some ⟨B, 0, none⟩)] #[], .func (.func 70) #[.pointer (some ⟨B, 0, none⟩)] #[], .func (.func 71) #[.pointer (some ⟨B, 0, none⟩)] #[], .func (.func 72) #[.pointer (some ⟨B, 0, none⟩)] #[], .func (.func 73) #[.pointer (some ⟨B, 0, none⟩)] #[], .func (.func 74) #[.pointer (some ⟨B, 0, none⟩)] #[], .func (.func 75) #[.pointer (some ⟨B, 0, none⟩)] #[], .func (.func 76) #[.pointer (some ⟨B, 0, none⟩)] #[]] 99))
  have K0 := Aside0.mk ((Kp.refl B vD w).alloc (.cells #[.func (.func 68) #[.pointer (some ⟨B, 0, none⟩)] #[], .func (.func 69) #[.pointer (some ⟨B, 0, none⟩)] #[], .func (.func 70) #[.pointer (some ⟨B, 0, none⟩)] #[], .func (.func 71) #[.pointer (some ⟨B, 0, none⟩)] #[], .func (.func 72) #[.pointer (some ⟨B, 0, none⟩)] #[], .func (.func 73) #[.pointer (some ⟨B, 0, none⟩)] #[], .func (.func 74) #[.pointer (some ⟨B, 0, none⟩)] #[], .func (.func 75) #[.pointer (some ⟨B, 0, none⟩)] #[], .func (.func 76) #[.pointer (some ⟨B, 0, none⟩)] #[]] 99))
  have hlt : B < w.heap.size := blk_lt h.blk
  have ne2 : B ≠ w.heap.size := by omega
  have hu52 := Tryd.underlying52
  have hu62 := Tryd.underlying62
  have hu67 := Tryd.underlying67
  have hu99 := Tryd.underlying99
  have hmf : ∀ (fn : Fn) (first cap : Array Value) (w : World), (Instr.makeFunc fn first cap).run Tryd.prog w = .ok (.func fn first cap) w := fun _ _ _ _ => rfl
  clear h
  clear h24 h26 h27 hf5 hf0
  have e32 : decide (c < 32) = false := decide_eq_false (by omega)
  go_enter Tryd.func57, Tryd.ntmps57
  go_wp2_with (first | (go_at_call 71; (with_reducible refine (csi_calls c _ base P B _ _ p d H.out hd hpar.out).mono ?_); rintro e w2 ⟨rfl, L2⟩; have L := Aside0.mk L2; clear L2))
  go_end0
  first | exact ⟨rfl, Left.after B0.out K0.out (Left.after B1.out K1.out L.out)⟩ | exact ⟨rfl, Left.after B0.out K0.out L.out⟩ | exact ⟨rfl, Left.after B0.out K0.out ⟨_, _, H1.out, B1.out, K1.out⟩⟩ | exact ⟨rfl, _, _, H.out, B0.out, K0.out⟩
set_option maxRecDepth 100000 in
set_option maxHeartbeats 4000000 in
theorem take_s4 (c : Int) (w : World) (base : Nat) (P : Nat → Prop) (B : Nat) (vP vD : Value) (p : S52) (d : List S62) (h : RS w base P B vP vD p d) (hd : d.length ≤ 1000000000) (hf5 : p.f5 = ⟨#[]⟩) (hf0 : p.f0 = 4) (h24 : c ≠ 24) (h26 : c ≠ 26) (h27 : c ≠ 27) (h32 : 32 ≤ c) :
    Calls Tryd.prog 57 #[.pointer (some ⟨B, 0, none⟩), .int .i64 c] w fun e w' => e = .returned (.tuple #[]) ∧ Left w base P B vD (behindP p c) (behindD p d c) w' := by
  have e24 : (c == (24 : Int)) = false := beq_eq_false_iff_ne.2 h24
  have e26 : (c == (26 : Int)) = false := beq_eq_false_iff_ne.2 h26
  have e27 : (c == (27 : Int)) = false := beq_eq_false_iff_ne.2 h27
  have z0 : w.cell? ⟨B, 0, none⟩ = some (.int .i64 4) := (h.cell 0).trans (by show some (Value.int .i64 p.f0) = _; rw [hf0])
  have z4 : w.cell? ⟨B, 4, none⟩ = some (.string p.f4) := h.cell 4
  have z5 : w.cell? ⟨B, 5, none⟩ = some (.string ⟨#[]⟩) := (h.cell 5).trans (by show some (Value.string p.f5) = _; rw [hf5])
  have H := Aside0.mk (h.below (below_alloc (Below.refl _ _) (.cells #[.func (.func 68) #[.pointer (some ⟨B, 0, none⟩)] #[], .func (.func 69) #[.pointer (some ⟨B, 0, none⟩)] #[], .func (.func 70) #[.pointer (some ⟨B, 0, none⟩)] #[], .func (.func 71) #[.pointer (some ⟨B, 0, none⟩)] #[], .func (.func 72) #[.pointer (some ⟨B, 0, none⟩)] #[], .func (.func 73) #[.pointer (some ⟨B, 0, none⟩)] #[], .func (.func 74) #[.pointer (some ⟨B, 0, none⟩)] #[], .func (.func 75) #[.pointer (some ⟨B, 0, none⟩)] #[], .func (.func 76) #[.pointer (some ⟨B, 0, none⟩)] #[]] 99)))
  have B0 := Aside0.mk ((Below.refl base w).alloc h.size (.cells #[.func (.func 68) #[.pointer (some ⟨B, 0, none⟩)] #[], .func (.func 69) #[.pointer (some ⟨B, 0, none⟩)] #[], .func (.func 70) #[.pointer (some ⟨B, 0, none⟩)] #[], .func (.func 71) #[.pointer (some ⟨B, 0, none⟩)] #[], .func (.func 72) #[.pointer (some ⟨B, 0, none⟩)] #[], .func (.func 73) #[.pointer (some ⟨B, 0, none⟩)] #[], .func (.func 74) #[.pointer (some ⟨B, 0, none⟩)] #[], .func (.func 75) #[.pointer (some ⟨B, 0, none⟩)] #[], .func (.func 76) #[.pointer (some ⟨B, 0, none⟩)] #[]] 99))
  have K0 := Aside0.mk ((Kp.refl B vD w).alloc (.cells #[.func (.func 68) #[.pointer (some ⟨B, 0, none⟩)] #[], .func (.func 69) #[.pointer (some ⟨B, 0, none⟩)] #[], .func (.func 70) #[.pointer (some ⟨B, 0, none⟩)] #[], .func (.func 71) #[.pointer (some ⟨B, 0, none⟩)] #[], .func (.func 72) #[.pointer (some ⟨B, 0, none⟩)] #[], .func (.func 73) #[.pointer (some ⟨B, 0, none⟩)] #[], .func (.func 74) #[.pointer (some ⟨B, 0, none⟩)] #[], .func (.func 75) #[.pointer (some ⟨B, 0, none⟩)] #[], .func (.func 76) #[.pointer (some ⟨B, 0, none⟩)] #[]] 99))
  have hlt : B < w.heap.size := blk_lt h.blk
  have ne2 : B ≠ w.heap.size := by omega
  have hu52 := Tryd.underlying52
  have hu62 := Tryd.underlying62
  have hu67 := Tryd.underlying67
  have hu99 := Tryd.underlying99
  have hmf : ∀ (fn : Fn) (first cap : Array Value) (w : World), (Instr.makeFunc fn first cap).run Tryd.prog w = .ok (.func fn first cap) w := fun _ _ _ _ => rfl
  clear h
  clear h24 h26 h27 hf5 hf0
  have e32 : decide (c < 32) = false := decide_eq_false (by omega)
  go_enter Tryd.func57, Tryd.ntmps57
  go_wp2_with (first | (go_at_call 72; (with_reducible refine (behind_calls c _ base P B _ _ p d H.out hd).mono ?_); rintro e w2 ⟨rfl, L2⟩; have L := Aside0.mk L2; clear L2))
  go_end0
  first | exact ⟨rfl, Left.after B0.out K0.out (Left.after B1.out K1.out L.out)⟩ | exact ⟨rfl, Left.after B0.out K0.out L.out⟩ | exact ⟨rfl, Left.after B0.out K0.out ⟨_, _, H1.out, B1.out, K1.out⟩⟩ | exact ⟨rfl, _, _, H.out, B0.out, K0.out⟩
set_option maxRecDepth 100000 in
set_option maxHeartbeats 4000000 in
theorem take_s5 (c : Int) (w : World) (base : Nat) (P : Nat → Prop) (B : Nat) (vP vD : Value) (p : S52) (d : List S62) (h : RS w base P B vP vD p d) (hd : d.length ≤ 1000000000) (hf5 : p.f5 = ⟨#[]⟩) (hf0 : p.f0 = 5) (h24 : c ≠ 24) (h26 : c ≠ 26) (h27 : c ≠ 27) (h32 : 32 ≤ c) :
    Calls Tryd.prog 57 #[.pointer (some ⟨B, 0, none⟩), .int .i64 c] w fun e w' => e = .returned (.tuple #[]) ∧ Left w base P B vD (skipP p c) (d) w' := by
  have e24 : (c == (24 : Int)) = false := beq_eq_false_iff_ne.2 h24
  have e26 : (c == (26 : Int)) = false := beq_eq_false_iff_ne.2 h26
  have e27 : (c == (27 : Int)) = false := beq_eq_false_iff_ne.2 h27
  have z0 : w.cell? ⟨B, 0, none⟩ = some (.int .i64 5) := (h.cell 0).trans (by show some (Value.int .i64 p.f0) = _; rw [hf0])
  have z4 : w.cell? ⟨B, 4, none⟩ = some (.string p.f4) := h.cell 4
  have z5 : w.cell? ⟨B, 5, none⟩ = some (.string ⟨#[]⟩) := (h.cell 5).trans (by show some (Value.string p.f5) = _; rw [hf5])
  have H := Aside0.mk (h.below (below_alloc (Below.refl _ _) (.cells #[.func (.func 68) #[.pointer (some ⟨B, 0, none⟩)] #[], .func (.func 69) #[.pointer (some ⟨B, 0, none⟩)] #[], .func (.func 70) #[.pointer (some ⟨B, 0, none⟩)] #[], .func (.func 71) #[.pointer (some ⟨B, 0, none⟩)] #[], .func (.func 72) #[.pointer (some ⟨B, 0, none⟩)] #[], .func (.func 73) #[.pointer (some ⟨B, 0, none⟩)] #[], .func (.func 74) #[.pointer (some ⟨B, 0, none⟩)] #[], .func (.func 75) #[.pointer (some ⟨B, 0, none⟩)] #[], .func (.func 76) #[.pointer (some ⟨B, 0, none⟩)] #[]] 99)))
  have B0 := Aside0.mk ((Below.refl base w).alloc h.size (.cells #[.func (.func 68) #[.pointer (some ⟨B, 0, none⟩)] #[], .func (.func 69) #[.pointer (some ⟨B, 0, none⟩)] #[], .func (.func 70) #[.pointer (some ⟨B, 0, none⟩)] #[], .func (.func 71) #[.pointer (some ⟨B, 0, none⟩)] #[], .func (.func 72) #[.pointer (some ⟨B, 0, none⟩)] #[], .func (.func 73) #[.pointer (some ⟨B, 0, none⟩)] #[], .func (.func 74) #[.pointer (some ⟨B, 0, none⟩)] #[], .func (.func 75) #[.pointer (some ⟨B, 0, none⟩)] #[], .func (.func 76) #[.pointer (some ⟨B, 0, none⟩)] #[]] 99))
  have K0 := Aside0.mk ((Kp.refl B vD w).alloc (.cells #[.func (.func 68) #[.pointer (some ⟨B, 0, none⟩)] #[], .func (.func 69) #[.pointer (some ⟨B, 0, none⟩)] #[], .func (.func 70) #[.pointer (some ⟨B, 0, none⟩)] #[], .func (.func 71) #[.pointer (some ⟨B, 0, none⟩)] #[], .func (.func 72) #[.pointer (some ⟨B, 0, none⟩)] #[], .func (.func 73) #[.pointer (some ⟨B, 0, none⟩)] #[], .func (.func 74) #[.pointer (some ⟨B, 0, none⟩)] #[], .func (.func 75) #[.pointer (some ⟨B, 0, none⟩)] #[], .func (.func 76) #[.pointer (some ⟨B, 0, none⟩)] #[]] 99))
  have hlt : B < w.heap.size := blk_lt h.blk
  have ne2 : B ≠ w.heap.size := by omega
  have hu52 := Tryd.underlying52
  have hu62 := Tryd.underlying62
  have hu67 := Tryd.underlying67
  have hu99 := Tryd.underlying99
  have hmf : ∀ (fn : Fn) (first cap : Array Value) (w : World), (Instr.makeFunc fn first cap).run Tryd.prog w = .ok (.func fn first cap) w := fun _ _ _ _ => rfl
  clear h
  clear h24 h26 h27 hf5 hf0
  have e32 : decide (c < 32) = false := decide_eq_false (by omega)
  go_enter Tryd.func57, Tryd.ntmps57
  go_wp2_with (first | (go_at_call 73; (with_reducible refine (skip_calls c _ base P B _ _ p d H.out hd).mono ?_); rintro e w2 ⟨rfl, L2⟩; have L := Aside0.mk L2; clear L2))
  go_end0
  first | exact ⟨rfl, Left.after B0.out K0.out (Left.after B1.out K1.out L.out)⟩ | exact ⟨rfl, Left.after B0.out K0.out L.out⟩ | exact ⟨rfl, Left.after B0.out K0.out ⟨_, _, H1.out, B1.out, K1.out⟩⟩ | exact ⟨rfl, _, _, H.out, B0.out, K0.out⟩
set_option maxRecDepth 100000 in
set_option maxHeartbeats 4000000 in
theorem take_s6 (c : Int) (w : World) (base : Nat) (P : Nat → Prop) (B : Nat) (vP vD : Value) (p : S52) (d : List S62) (h : RS w base P B vP vD p d) (hd : d.length ≤ 1000000000) (hf5 : p.f5 = ⟨#[]⟩) (hf0 : p.f0 = 6) (h24 : c ≠ 24) (h26 : c ≠ 26) (h27 : c ≠ 27) (hosc0 : p.f4.size ≤ 64) (hc0 : 0 ≤ c) (hc1 : c ≤ 255) :
    Calls Tryd.prog 57 #[.pointer (some ⟨B, 0, none⟩), .int .i64 c] w fun e w' => e = .returned (.tuple #[]) ∧ Left w base P B vD ((oscR p d c).1) ((oscR p d c).2) w' := by
  have hosc := Aside0.mk hosc0
  clear hosc0
  have e24 : (c == (24 : Int)) = false := beq_eq_false_iff_ne.2 h24
  have e26 : (c == (26 : Int)) = false := beq_eq_false_iff_ne.2 h26
  have e27 : (c == (27 : Int)) = false := beq_eq_false_iff_ne.2 h27
  have z0 : w.cell? ⟨B, 0, none⟩ = some (.int .i64 6) := (h.cell 0).trans (by show some (Value.int .i64 p.f0) = _; rw [hf0])
  have z4 : w.cell? ⟨B, 4, none⟩ = some (.string p.f4) := h.cell 4
  have z5 : w.cell? ⟨B, 5, none⟩ = some (.string ⟨#[]⟩) := (h.cell 5).trans (by show some (Value.string p.f5) = _; rw [hf5])
  have H := Aside0.mk (h.below (below_alloc (Below.refl _ _) (.cells #[.func (.func 68) #[.pointer (some ⟨B, 0, none⟩)] #[], .func (.func 69) #[.pointer (some ⟨B, 0, none⟩)] #[], .func (.func 70) #[.pointer (some ⟨B, 0, none⟩)] #[], .func (.func 71) #[.pointer (some ⟨B, 0, none⟩)] #[], .func (.func 72) #[.pointer (some ⟨B, 0, none⟩)] #[], .func (.func 73) #[.pointer (some ⟨B, 0, none⟩)] #[], .func (.func 74) #[.pointer (some ⟨B, 0, none⟩)] #[], .func (.func 75) #[.pointer (some ⟨B, 0, none⟩)] #[], .func (.func 76) #[.pointer (some ⟨B, 0, none⟩)] #[]] 99)))
  have B0 := Aside0.mk ((Below.refl base w).alloc h.size (.cells #[.func (.func 68) #[.pointer (some ⟨B, 0, none⟩)] #[], .func (.func 69) #[.pointer (some ⟨B, 0, none⟩)] #[], .func (.func 70) #[.pointer (some ⟨B, 0, none⟩)] #[], .func (.func 71) #[.pointer (some ⟨B, 0, none⟩)] #[], .func (.func 72) #[.pointer (some ⟨B, 0, none⟩)] #[], .func (.func 73) #[.pointer (some ⟨B, 0, none⟩)] #[], .func (.func 74) #[.pointer (some ⟨B, 0, none⟩)] #[], .func (.func 75) #[.pointer (some ⟨B, 0, none⟩)] #[], .func (.func 76) #[.pointer (some ⟨B, 0, none⟩)] #[]] 99))
  have K0 := Aside0.mk ((Kp.refl B vD w).alloc (.cells #[.func (.func 68) #[.pointer (some ⟨B, 0, none⟩)] #[], .func (.func 69) #[.pointer (some ⟨B, 0, none⟩)] #[], .func (.func 70) #[.pointer (some ⟨B, 0, none⟩)] #[], .func (.func 71) #[.pointer (some ⟨B, 0, none⟩)] #[], .func (.func 72) #[.pointer (some ⟨B, 0, none⟩)] #[], .func (.func 73) #[.pointer (some ⟨B, 0, none⟩)] #[], .func (.func 74) #[.pointer (some ⟨B, 0, none⟩)] #[], .func (.func 75) #[.pointer (some ⟨B, 0, none⟩)] #[], .func (.func 76) #[.pointer (some ⟨B, 0, none⟩)] #[]] 99))
  have hlt : B < w.heap.size := blk_lt h.blk
  have ne2 : B ≠ w.heap.size := by omega
  have hu52 := Tryd.underlying52
  have hu62 := Tryd.underlying62
  have hu67 := Tryd.underlying67
  have hu99 := Tryd.underlying99
  have hmf : ∀ (fn : Fn) (first cap : Array Value) (w : World), (Instr.makeFunc fn first cap).run Tryd.prog w = .ok (.func fn first cap) w := fun _ _ _ _ => rfl
  clear h
  clear h24 h26 h27 hf5 hf0
  by_cases h32 : c < 32
  · have e32 : decide (c < 32) = true := decide_eq_true h32
    go_enter Tryd.func57, Tryd.ntmps57
    go_wp2_with (first | (go_at_call 74; (with_reducible refine (osc_calls c _ base P B _ _ p d H.out hd hc0 hc1 hosc.out).mono ?_); rintro e w2 ⟨rfl, L2⟩; have L := Aside0.mk L2; clear L2))
    go_end0
    first | exact ⟨rfl, Left.after B0.out K0.out (Left.after B1.out K1.out L.out)⟩ | exact ⟨rfl, Left.after B0.out K0.out L.out⟩ | exact ⟨rfl, Left.after B0.out K0.out ⟨_, _, H1.out, B1.out, K1.out⟩⟩ | exact ⟨rfl, _, _, H.out, B0.out, K0.out⟩
  · have e32 : decide (c < 32) = false := decide_eq_false h32
    go_enter Tryd.func57, Tryd.ntmps57
    go_wp2_with (first | (go_at_call 74; (with_reducible refine (osc_calls c _ base P B _ _ p d H.out hd hc0 hc1 hosc.out).mono ?_); rintro e w2 ⟨rfl, L2⟩; have L := Aside0.mk L2; clear L2))
    go_end0
    first | exact ⟨rfl, Left.after B0.out K0.out (Left.after B1.out K1.out L.out)⟩ | exact ⟨rfl, Left.after B0.out K0.out L.out⟩ | exact ⟨rfl, Left.after B0.out K0.out ⟨_, _, H1.out, B1.out, K1.out⟩⟩ | exact ⟨rfl, _, _, H.out, B0.out, K0.out⟩
set_option maxRecDepth 100000 in
set_option maxHeartbeats 4000000 in
theorem take_s7 (c : Int) (w : World) (base : Nat) (P : Nat → Prop) (B : Nat) (vP vD : Value) (p : S52) (d : List S62) (h : RS w base P B vP vD p d) (hd : d.length ≤ 1000000000) (hf5 : p.f5 = ⟨#[]⟩) (hf0 : p.f0 = 7) (h24 : c ≠ 24) (h26 : c ≠ 26) (h27 : c ≠ 27) :
    Calls Tryd.prog 57 #[.pointer (some ⟨B, 0, none⟩), .int .i64 c] w fun e w' => e = .returned (.tuple #[]) ∧ Left w base P B vD (p) (d) w' := by
  have e24 : (c == (24 : Int)) = false := beq_eq_false_iff_ne.2 h24
  have e26 : (c == (26 : Int)) = false := beq_eq_false_iff_ne.2 h26
  have e27 : (c == (27 : Int)) = false := beq_eq_false_iff_ne.2 h27
  have z0 : w.cell? ⟨B, 0, none⟩ = some (.int .i64 7) := (h.cell 0).trans (by show some (Value.int .i64 p.f0) = _; rw [hf0])
  have z4 : w.cell? ⟨B, 4, none⟩ = some (.string p.f4) := h.cell 4
  have z5 : w.cell? ⟨B, 5, none⟩ = some (.string ⟨#[]⟩) := (h.cell 5).trans (by show some (Value.string p.f5) = _; rw [hf5])
  have H := Aside0.mk (h.below (below_alloc (Below.refl _ _) (.cells #[.func (.func 68) #[.pointer (some ⟨B, 0, none⟩)] #[], .func (.func 69) #[.pointer (some ⟨B, 0, none⟩)] #[], .func (.func 70) #[.pointer (some ⟨B, 0, none⟩)] #[], .func (.func 71) #[.pointer (some ⟨B, 0, none⟩)] #[], .func (.func 72) #[.pointer (some ⟨B, 0, none⟩)] #[], .func (.func 73) #[.pointer (some ⟨B, 0, none⟩)] #[], .func (.func 74) #[.pointer (some ⟨B, 0, none⟩)] #[], .func (.func 75) #[.pointer (some ⟨B, 0, none⟩)] #[], .func (.func 76) #[.pointer (some ⟨B, 0, none⟩)] #[]] 99)))
  have B0 := Aside0.mk ((Below.refl base w).alloc h.size (.cells #[.func (.func 68) #[.pointer (some ⟨B, 0, none⟩)] #[], .func (.func 69) #[.pointer (some ⟨B, 0, none⟩)] #[], .func (.func 70) #[.pointer (some ⟨B, 0, none⟩)] #[], .func (.func 71) #[.pointer (some ⟨B, 0, none⟩)] #[], .func (.func 72) #[.pointer (some ⟨B, 0, none⟩)] #[], .func (.func 73) #[.pointer (some ⟨B, 0, none⟩)] #[], .func (.func 74) #[.pointer (some ⟨B, 0, none⟩)] #[], .func (.func 75) #[.pointer (some ⟨B, 0, none⟩)] #[], .func (.func 76) #[.pointer (some ⟨B, 0, none⟩)] #[]] 99))
  have K0 := Aside0.mk ((Kp.refl B vD w).alloc (.cells #[.func (.func 68) #[.pointer (some ⟨B, 0, none⟩)] #[], .func (.func 69) #[.pointer (some ⟨B, 0, none⟩)] #[], .func (.func 70) #[.pointer (some ⟨B, 0, none⟩)] #[], .func (.func 71) #[.pointer (some ⟨B, 0, none⟩)] #[], .func (.func 72) #[.pointer (some ⟨B, 0, none⟩)] #[], .func (.func 73) #[.pointer (some ⟨B, 0, none⟩)] #[], .func (.func 74) #[.pointer (some ⟨B, 0, none⟩)] #[], .func (.func 75) #[.pointer (some ⟨B, 0, none⟩)] #[], .func (.func 76) #[.pointer (some ⟨B, 0, none⟩)] #[]] 99))
  have hlt : B < w.heap.size := blk_lt h.blk
  have ne2 : B ≠ w.heap.size := by omega
  have hu52 := Tryd.underlying52
  have hu62 := Tryd.underlying62
  have hu67 := Tryd.underlying67
  have hu99 := Tryd.underlying99
  have hmf : ∀ (fn : Fn) (first cap : Array Value) (w : World), (Instr.makeFunc fn first cap).run Tryd.prog w = .ok (.func fn first cap) w := fun _ _ _ _ => rfl
  clear h
  clear h24 h26 h27 hf5 hf0
  by_cases h32 : c < 32
  · have e32 : decide (c < 32) = true := decide_eq_true h32
    go_enter Tryd.func57, Tryd.ntmps57
    go_wp2_with (first | (go_at_call 75; (with_reducible refine (nothing_calls _ _ _).mono ?_); rintro e w2 ⟨rfl, rfl⟩))
    go_end0
    first | exact ⟨rfl, Left.after B0.out K0.out (Left.after B1.out K1.out L.out)⟩ | exact ⟨rfl, Left.after B0.out K0.out L.out⟩ | exact ⟨rfl, Left.after B0.out K0.out ⟨_, _, H1.out, B1.out, K1.out⟩⟩ | exact ⟨rfl, _, _, H.out, B0.out, K0.out⟩
  · have e32 : decide (c < 32) = false := decide_eq_false h32
    go_enter Tryd.func57, Tryd.ntmps57
    go_wp2_with (first | (go_at_call 75; (with_reducible refine (nothing_calls _ _ _).mono ?_); rintro e w2 ⟨rfl, rfl⟩))
    go_end0
    first | exact ⟨rfl, Left.after B0.out K0.out (Left.after B1.out K1.out L.out)⟩ | exact ⟨rfl, Left.after B0.out K0.out L.out⟩ | exact ⟨rfl, Left.after B0.out K0.out ⟨_, _, H1.out, B1.out, K1.out⟩⟩ | exact ⟨rfl, _, _, H.out, B0.out, K0.out⟩
set_option maxRecDepth 100000 in
set_option maxHeartbeats 4000000 in
theorem take_s8 (c : Int) (w : World) (base : Nat) (P : Nat → Prop) (B : Nat) (vP vD : Value) (p : S52) (d : List S62) (h : RS w base P B vP vD p d) (hd : d.length ≤ 1000000000) (hf5 : p.f5 = ⟨#[]⟩) (hf0 : p.f0 = 8) (h24 : c ≠ 24) (h26 : c ≠ 26) (h27 : c ≠ 27) (h32 : 32 ≤ c) :
    Calls Tryd.prog 57 #[.pointer (some ⟨B, 0, none⟩), .int .i64 c] w fun e w' => e = .returned (.tuple #[]) ∧ Left w base P B vD (dropP p c) (d) w' := by
  have e24 : (c == (24 : Int)) = false := beq_eq_false_iff_ne.2 h24
  have e26 : (c == (26 : Int)) = false := beq_eq_false_iff_ne.2 h26
  have e27 : (c == (27 : Int)) = false := beq_eq_false_iff_ne.2 h27
  have z0 : w.cell? ⟨B, 0, none⟩ = some (.int .i64 8) := (h.cell 0).trans (by show some (Value.int .i64 p.f0) = _; rw [hf0])
  have z4 : w.cell? ⟨B, 4, none⟩ = some (.string p.f4) := h.cell 4
  have z5 : w.cell? ⟨B, 5, none⟩ = some (.string ⟨#[]⟩) := (h.cell 5).trans (by show some (Value.string p.f5) = _; rw [hf5])
  have H := Aside0.mk (h.below (below_alloc (Below.refl _ _) (.cells #[.func (.func 68) #[.pointer (some ⟨B, 0, none⟩)] #[], .func (.func 69) #[.pointer (some ⟨B, 0, none⟩)] #[], .func (.func 70) #[.pointer (some ⟨B, 0, none⟩)] #[], .func (.func 71) #[.pointer (some ⟨B, 0, none⟩)] #[], .func (.func 72) #[.pointer (some ⟨B, 0, none⟩)] #[], .func (.func 73) #[.pointer (some ⟨B, 0, none⟩)] #[], .func (.func 74) #[.pointer (some ⟨B, 0, none⟩)] #[], .func (.func 75) #[.pointer (some ⟨B, 0, none⟩)] #[], .func (.func 76) #[.pointer (some ⟨B, 0, none⟩)] #[]] 99)))
  have B0 := Aside0.mk ((Below.refl base w).alloc h.size (.cells #[.func (.func 68) #[.pointer (some ⟨B, 0, none⟩)] #[], .func (.func 69) #[.pointer (some ⟨B, 0, none⟩)] #[], .func (.func 70) #[.pointer (some ⟨B, 0, none⟩)] #[], .func (.func 71) #[.pointer (some ⟨B, 0, none⟩)] #[], .func (.func 72) #[.pointer (some ⟨B, 0, none⟩)] #[], .func (.func 73) #[.pointer (some ⟨B, 0, none⟩)] #[], .func (.func 74) #[.pointer (some ⟨B, 0, none⟩)] #[], .func (.func 75) #[.pointer (some ⟨B, 0, none⟩)] #[], .func (.func 76) #[.pointer (some ⟨B, 0, none⟩)] #[]] 99))
  have K0 := Aside0.mk ((Kp.refl B vD w).alloc (.cells #[.func (.func 68) #[.pointer (some ⟨B, 0, none⟩)] #[], .func (.func 69) #[.pointer (some ⟨B, 0, none⟩)] #[], .func (.func 70) #[.pointer (some ⟨B, 0, none⟩)] #[], .func (.func 71) #[.pointer (some ⟨B, 0, none⟩)] #[], .func (.func 72) #[.pointer (some ⟨B, 0, none⟩)] #[], .func (.func 73) #[.pointer (some ⟨B, 0, none⟩)] #[], .func (.func 74) #[.pointer (some ⟨B, 0, none⟩)] #[], .func (.func 75) #[.pointer (some ⟨B, 0, none⟩)] #[], .func (.func 76) #[.pointer (some ⟨B, 0, none⟩)] #[]] 99))
  have hlt : B < w.heap.size := blk_lt h.blk
  have ne2 : B ≠ w.heap.size := by omega
  have hu52 := Tryd.underlying52
  have hu62 := Tryd.underlying62
  have hu67 := Tryd.underlying67
  have hu99 := Tryd.underlying99
  have hmf : ∀ (fn : Fn) (first cap : Array Value) (w : World), (Instr.makeFunc fn first cap).run Tryd.prog w = .ok (.func fn first cap) w := fun _ _ _ _ => rfl
  clear h
  clear h24 h26 h27 hf5 hf0
  have e32 : decide (c < 32) = false := decide_eq_false (by omega)
  go_enter Tryd.func57, Tryd.ntmps57
  go_wp2_with (first | (go_at_call 76; (with_reducible refine (drop_calls c _ base P B _ _ p d H.out hd).mono ?_); rintro e w2 ⟨rfl, L2⟩; have L := Aside0.mk L2; clear L2))
  go_end0
  first | exact ⟨rfl, Left.after B0.out K0.out (Left.after B1.out K1.out L.out)⟩ | exact ⟨rfl, Left.after B0.out K0.out L.out⟩ | exact ⟨rfl, Left.after B0.out K0.out ⟨_, _, H1.out, B1.out, K1.out⟩⟩ | exact ⟨rfl, _, _, H.out, B0.out, K0.out⟩
end Go.Proofs.YthipdgnbpdngpaaDoor
