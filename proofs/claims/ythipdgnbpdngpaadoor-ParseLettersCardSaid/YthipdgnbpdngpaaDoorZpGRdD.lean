-- A copy of the text YthipdgnbpdngpaaDoorGRdD with what this claim does not reach left out (prune.py, a program of this project).
import Derived.Test.YthipdgnbpdngpaaDoorZpGRdC
import Derived.BigRegion
import Derived.Laws.EntriesVeiled
namespace Go.Proofs.YthipdgnbpdngpaaDoor
open Go.RowKit Go.Proofs.YthipdgnbpdngpaaDoorW.PrintWords Go.Proofs.YthipdgnbpdngpaaDoorW.PrintLast Go.Proofs.YthipdgnbpdngpaaDoorW.PrintMore S
set_option linter.unusedVariables false
set_option linter.unusedSimpArgs false
set_option maxRecDepth 100000 in
set_option maxHeartbeats 4000000 in
theorem take_pend {pend : S52 → List S62 → S52 × List S62} {ok : S52 → List S62 → Prop} (hP0 : PendC pend ok) (c : Int) (w : World) (base : Nat) (P : Nat → Prop) (B : Nat) (vP vD : Value) (p : S52) (d : List S62) (h : RS w base P B vP vD p d) (hd : d.length ≤ 1000000000) (hT0 : TabsAt w) (h20 : 2 ≤ base) (hok0 : ok (pendAs p (p.f5 ++ strOfNums [c])) d) (hc0 : 0 ≤ c) (hc1 : c ≤ 255) (hf0 : p.f0 = 0) (hn : p.f5.size ≠ 0) (hs : p.f5.size ≤ 1000) :
    Calls Tryd.prog 57 #[.pointer (some ⟨B, 0, none⟩), .int .i64 c] w fun e w' => e = .returned (.tuple #[]) ∧ Left w base P B vD ((pend (pendAs p (p.f5 ++ strOfNums [c])) d).1) ((pend (pendAs p (p.f5 ++ strOfNums [c])) d).2) w' := by
  have hP := Aside0.mk hP0
  have hT := Aside0.mk hT0
  have h2 := Aside0.mk h20
  have hok := Aside0.mk hok0
  have hl1 : ¬ p.f5 = ⟨#[]⟩ := fun e => hn (by rw [e]; rfl)
  have hl3 : p.f5.toList ≠ [] := fun e => hn (by
    have := Lib.toList_data p.f5
    rw [e] at this
    have h3 := congrArg List.length this
    simp at h3
    rw [ByteArray.size]
    omega)
  have hl4 : p.f5.toList.isEmpty = false := by cases h9 : p.f5.toList with | nil => exact absurd h9 hl3 | cons _ _ => rfl
  have hsum : ¬ 9223372036854775807 < p.f5.size + (strOfNums [c]).size := by rw [strOfNums_size]; simp; omega
  clear hP0 hT0 h20 hok0 hn
  have z0 : w.cell? ⟨B, 0, none⟩ = some (.int .i64 0) := (h.cell 0).trans (by show some (Value.int .i64 p.f0) = _; rw [hf0])
  have z4 : w.cell? ⟨B, 4, none⟩ = some (.string p.f4) := h.cell 4
  have z5 : w.cell? ⟨B, 5, none⟩ = some (.string p.f5) := h.cell 5
  have H := Aside0.mk (h.below (below_alloc (Below.refl _ _) (.cells #[.func (.func 68) #[.pointer (some ⟨B, 0, none⟩)] #[], .func (.func 69) #[.pointer (some ⟨B, 0, none⟩)] #[], .func (.func 70) #[.pointer (some ⟨B, 0, none⟩)] #[], .func (.func 71) #[.pointer (some ⟨B, 0, none⟩)] #[], .func (.func 72) #[.pointer (some ⟨B, 0, none⟩)] #[], .func (.func 73) #[.pointer (some ⟨B, 0, none⟩)] #[], .func (.func 74) #[.pointer (some ⟨B, 0, none⟩)] #[], .func (.func 75) #[.pointer (some ⟨B, 0, none⟩)] #[], .func (.func 76) #[.pointer (some ⟨B, 0, none⟩)] #[]] 99)))
  have B0 := Aside0.mk ((Below.refl base w).alloc h.size (.cells #[.func (.func 68) #[.pointer (some ⟨B, 0, none⟩)] #[], .func (.func 69) #[.pointer (some ⟨B, 0, none⟩)] #[], .func (.func 70) #[.pointer (some ⟨B, 0, none⟩)] #[], .func (.func 71) #[.pointer (some ⟨B, 0, none⟩)] #[], .func (.func 72) #[.pointer (some ⟨B, 0, none⟩)] #[], .func (.func 73) #[.pointer (some ⟨B, 0, none⟩)] #[], .func (.func 74) #[.pointer (some ⟨B, 0, none⟩)] #[], .func (.func 75) #[.pointer (some ⟨B, 0, none⟩)] #[], .func (.func 76) #[.pointer (some ⟨B, 0, none⟩)] #[]] 99))
  have K0 := Aside0.mk ((Kp.refl B vD w).alloc (.cells #[.func (.func 68) #[.pointer (some ⟨B, 0, none⟩)] #[], .func (.func 69) #[.pointer (some ⟨B, 0, none⟩)] #[], .func (.func 70) #[.pointer (some ⟨B, 0, none⟩)] #[], .func (.func 71) #[.pointer (some ⟨B, 0, none⟩)] #[], .func (.func 72) #[.pointer (some ⟨B, 0, none⟩)] #[], .func (.func 73) #[.pointer (some ⟨B, 0, none⟩)] #[], .func (.func 74) #[.pointer (some ⟨B, 0, none⟩)] #[], .func (.func 75) #[.pointer (some ⟨B, 0, none⟩)] #[], .func (.func 76) #[.pointer (some ⟨B, 0, none⟩)] #[]] 99))
  have hlt : B < w.heap.size := blk_lt h.blk
  have ne2 : B ≠ w.heap.size := by omega
  have hu52 := Tryd.underlying52
  have hu62 := Tryd.underlying62
  have hu67 := Tryd.underlying67
  have hu99 := Tryd.underlying99
  have hmf : ∀ (fn : Fn) (first cap : Array Value) (w : World), (Instr.makeFunc fn first cap).run Tryd.prog w = .ok (.func fn first cap) w := fun _ _ _ _ => rfl
  clear h
  go_enter Tryd.func57, Tryd.ntmps57
  go_wp2_with fail
  generalize w.alloc (.cells #[.func (.func 68) #[.pointer (some ⟨B, 0, none⟩)] #[], .func (.func 69) #[.pointer (some ⟨B, 0, none⟩)] #[], .func (.func 70) #[.pointer (some ⟨B, 0, none⟩)] #[], .func (.func 71) #[.pointer (some ⟨B, 0, none⟩)] #[], .func (.func 72) #[.pointer (some ⟨B, 0, none⟩)] #[], .func (.func 73) #[.pointer (some ⟨B, 0, none⟩)] #[], .func (.func 74) #[.pointer (some ⟨B, 0, none⟩)] #[], .func (.func 75) #[.pointer (some ⟨B, 0, none⟩)] #[], .func (.func 76) #[.pointer (some ⟨B, 0, none⟩)] #[]] 99) = W at H B0 K0 ⊢
  have z5w : W.cell? ⟨B, 5, none⟩ = some (.string p.f5) := H.out.cell 5
  have zf5w : W.frozen? ⟨B, 5, none⟩ = false := H.out.frozen 5
  have hltw : B < W.heap.size := blk_lt H.out.blk
  have new : B ≠ W.heap.size := by omega
  have ya5 : ∀ o, (W.alloc o).cell? ⟨B, 5, none⟩ = some (.string p.f5) := fun o => blk_cell (blk_alloc H.out.blk o) 5
  have yf5 : ∀ o, (W.alloc o).frozen? ⟨B, 5, none⟩ = false := fun o => blk_frozen (blk_alloc H.out.blk o) 5
  have hcd := conv1d W c
  have hw8 : IntKind.u8.wrap c = c := IntWalk.u8_in _ (by omega)
  have R0 := H.out.put 5 (.string (p.f5 ++ strOfNums [c])) (pendAs p (p.f5 ++ strOfNums [c])) rfl rfl
  have R1 := Aside0.mk (R0.below (below_alloc (Below.refl _ _) (.cells #[.int .u8 c] 5))).drew
  have BB := Aside0.mk (((Below.refl base W).setCell (p := ⟨B, 5, none⟩) H.out.low (.string (p.f5 ++ strOfNums [c]))).alloc R0.size (.cells #[.int .u8 c] 5)).drew
  have KK := Aside0.mk (((Kp.refl B vD W).put 5 (.string (p.f5 ++ strOfNums [c]))).alloc (.cells #[.int .u8 c] 5)).drew
  clear R0
  go_region
  go_wp2_with (first | (go_at_call 77; (with_reducible refine (pend_after hP.out W _ base P B _ _ vD (pendAs p (p.f5 ++ strOfNums [c])) d R1.out (tabs_below hT.out h2.out B0.out) h2.out hok.out BB.out KK.out).mono ?_); rintro e w2 ⟨rfl, L2⟩; have L := Aside0.mk L2; clear L2))
  go_end0
  exact ⟨rfl, Left.after B0.out K0.out L.out⟩
end Go.Proofs.YthipdgnbpdngpaaDoor
