-- A copy of the text YthipdgnbpdngpaaDoorGRd9 with what this claim does not reach left out (prune.py, a program of this project).
import Derived.Test.YthipdgnbpdngpaaDoorZpMP0
namespace Go.Proofs.YthipdgnbpdngpaaDoor
open Go.RowKit Go.Proofs.YthipdgnbpdngpaaDoorW.PrintWords Go.Proofs.YthipdgnbpdngpaaDoorW.PrintLast Go.Proofs.YthipdgnbpdngpaaDoorW.PrintMore S
set_option linter.unusedVariables false
set_option linter.unusedSimpArgs false
/-- The tables of unicode/utf8 lie below whatever is written. -/
theorem tabs_below {w W : World} {base : Nat} (h : TabsAt w) (h2 : 2 ≤ base) (hb : Below base w W) : TabsAt W := by
  refine ⟨fun c hc => ?_, fun i hi => ⟨?_, ?_⟩⟩
  · exact (hb.cell (p := ⟨0, c, none⟩) (by simp; omega)).trans (h.1 c hc)
  · exact (hb.cell (p := ⟨1, 2 * i, none⟩) (by simp; omega)).trans (h.2 i hi).1
  · exact (hb.cell (p := ⟨1, 2 * i + 1, none⟩) (by simp; omega)).trans (h.2 i hi).2
/-- pending does what pend says, where ok says so. -/
def PendC (pend : S52 → List S62 → S52 × List S62) (ok : S52 → List S62 → Prop) : Prop :=
  ∀ (w : World) (base : Nat) (P : Nat → Prop) (B : Nat) (vP vD : Value) (p : S52) (d : List S62), RS w base P B vP vD p d → TabsAt w → 2 ≤ base → ok p d →
    Calls Tryd.prog 77 #[.pointer (some ⟨B, 0, none⟩)] w fun e w' => e = .returned (.tuple #[]) ∧ Left w base P B vD (pend p d).1 (pend p d).2 w'
theorem pend_after {pend : S52 → List S62 → S52 × List S62} {ok : S52 → List S62 → Prop} (hP : PendC pend ok) (w W : World) (base : Nat) (P : Nat → Prop) (B : Nat) (vP vD vD0 : Value) (p : S52) (d : List S62) (h : RS W base P B vP vD p d) (hT : TabsAt w) (h2 : 2 ≤ base) (hok : ok p d)
    (hb : Below base w W) (hk : Kp B vD0 vD w W) :
    Calls Tryd.prog 77 #[.pointer (some ⟨B, 0, none⟩)] W fun e w' => e = .returned (.tuple #[]) ∧ Left w base P B vD0 (pend p d).1 (pend p d).2 w' :=
  (hP W base P B vP vD p d h (tabs_below hT h2 hb) h2 hok).mono fun e w' ⟨he, hl⟩ => ⟨he, Left.after hb hk hl⟩
set_option maxRecDepth 100000 in
set_option maxHeartbeats 4000000 in
theorem ground_calls {pend : S52 → List S62 → S52 × List S62} {ok : S52 → List S62 → Prop} (hP0 : PendC pend ok) (c : Int) (w : World) (base : Nat) (P : Nat → Prop) (B : Nat) (vP vD : Value) (p : S52) (d : List S62) (h : RS w base P B vP vD p d) (hd : d.length ≤ 1000000000) (hc0 : 0 ≤ c) (hc1 : c ≤ 255) (hT0 : TabsAt w) (h20 : 2 ≤ base) (hok0 : 128 ≤ c → ok (pendAs p (strOfNums [c])) d) :
    Calls Tryd.prog 68 #[.pointer (some ⟨B, 0, none⟩), .int .i64 c] w fun e w' => e = .returned (.tuple #[]) ∧ Left w base P B vD (groundR pend p d c).1 (groundR pend p d c).2 w' := by
  have z5 : w.cell? ⟨B, 5, none⟩ = some (.string p.f5) := h.cell 5
  have zf5 : w.frozen? ⟨B, 5, none⟩ = false := h.frozen 5
  have H := Aside0.mk h
  have hP := Aside0.mk hP0
  have hT := Aside0.mk hT0
  have h2 := Aside0.mk h20
  have hu52 := Tryd.underlying52
  have hu62 := Tryd.underlying62
  have hu67 := Tryd.underlying67
  have hlt : B < w.heap.size := blk_lt h.blk
  have ne2 : B ≠ w.heap.size := by omega
  have ya5 : ∀ o, (w.alloc o).cell? ⟨B, 5, none⟩ = some (.string p.f5) := fun o => blk_cell (blk_alloc H.out.blk o) 5
  have yf5 : ∀ o, (w.alloc o).frozen? ⟨B, 5, none⟩ = false := fun o => blk_frozen (blk_alloc H.out.blk o) 5
  have R1 := Aside0.mk (H.out.put 5 (.string (strOfNums [c])) (pendAs p (strOfNums [c])) rfl rfl)
  have R2 := Aside0.mk ((H.out.below (below_alloc (Below.refl _ _) (.cells #[.int .u8 c] 5))).put 5 (.string (strOfNums [c])) (pendAs p (strOfNums [c])) rfl rfl)
  clear h hP0 hT0 h20
  unfold groundR
  by_cases t128 : 128 ≤ c
  · rw [if_pos t128]
    have hok := Aside0.mk (hok0 t128)
    clear hok0
    have ta : decide (c ≥ 128) = true := decide_eq_true t128
    have hcv := conv1 w c
    have hw8 : IntKind.u8.wrap c = c := IntWalk.u8_in _ (by omega)
    go_enter Tryd.func68, Tryd.ntmps68
    go_wp2_with (first | (go_at_call 77; (with_reducible refine (pend_after hP.out w _ base P B _ _ vD (pendAs p (strOfNums [c])) d (by first | exact (R1.out.below (below_alloc (Below.refl _ _) _)) | exact R2.out) hT.out h2.out (hok.out) (by first | exact ((Below.refl base w).setCell H.out.low _).alloc R1.out.size _ | exact ((Below.refl base w).alloc H.out.size _).setCell H.out.low _) (by first | exact ((Kp.refl B vD w).put _ _).alloc _ | exact ((Kp.refl B vD w).alloc _).put _ _)).mono ?_); rintro e w2 ⟨rfl, L2⟩; have L := Aside0.mk L2; clear L2))
    go_end0
    exact ⟨rfl, L.out⟩
  · rw [if_neg t128]
    clear hok0
    have ta : decide (c ≥ 128) = false := decide_eq_false t128
    by_cases t32 : 32 ≤ c
    · have tb : decide (c ≥ 32) = true := decide_eq_true t32
      by_cases t127 : c < 127
      · rw [if_pos ⟨t32, t127⟩]
        have tc : decide (c < 127) = true := decide_eq_true t127
        have hw32 : IntKind.i32.wrap c = c := by simp [IntKind.wrap, IntKind.bits, IntKind.signed]; omega
        unfold pr
        go_enter Tryd.func68, Tryd.ntmps68
        go_wp2_with (first | (go_at_call 78; (with_reducible refine (do_plain _ _ _ _ _ _ _ base P B _ _ p d H.out hd).mono ?_); rintro e w1 ⟨rfl, vP1, vD1, h1, hb1, hk1⟩; have H1 := Aside0.mk h1; have B1 := Aside0.mk hb1; have K1 := Aside0.mk hk1; clear h1 hb1 hk1))
        go_end0
        first | exact ⟨rfl, Left.after B1.out K1.out L.out⟩ | exact ⟨rfl, L.out⟩ | exact ⟨rfl, _, _, H1.out, B1.out, K1.out⟩ | exact ⟨rfl, _, _, H.out, Below.refl _ _, Kp.refl _ _ _⟩
      · rw [if_neg (fun hh => t127 hh.2)]
        have tc : decide (c < 127) = false := decide_eq_false t127
        go_enter Tryd.func68, Tryd.ntmps68
        go_wp2_with fail
        go_end0
        first | exact ⟨rfl, Left.after B1.out K1.out L.out⟩ | exact ⟨rfl, L.out⟩ | exact ⟨rfl, _, _, H1.out, B1.out, K1.out⟩ | exact ⟨rfl, _, _, H.out, Below.refl _ _, Kp.refl _ _ _⟩
    · rw [if_neg (fun hh => t32 hh.1)]
      have tb : decide (c ≥ 32) = false := decide_eq_false t32
      go_enter Tryd.func68, Tryd.ntmps68
      go_wp2_with fail
      go_end0
      first | exact ⟨rfl, Left.after B1.out K1.out L.out⟩ | exact ⟨rfl, L.out⟩ | exact ⟨rfl, _, _, H1.out, B1.out, K1.out⟩ | exact ⟨rfl, _, _, H.out, Below.refl _ _, Kp.refl _ _ _⟩
end Go.Proofs.YthipdgnbpdngpaaDoor
