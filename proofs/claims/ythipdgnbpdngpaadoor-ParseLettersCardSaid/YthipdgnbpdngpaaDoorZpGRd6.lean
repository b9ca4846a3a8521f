-- A copy of the text YthipdgnbpdngpaaDoorGRd6 with what this claim does not reach left out (prune.py, a program of this project).
import Derived.Test.YthipdgnbpdngpaaDoorZpGRd5
import Derived.IntWalk
namespace Go.Proofs.YthipdgnbpdngpaaDoor
open Go.RowKit Go.Proofs.YthipdgnbpdngpaaDoorW.PrintWords Go.Proofs.YthipdgnbpdngpaaDoorW.PrintLast Go.Proofs.YthipdgnbpdngpaaDoorW.PrintMore S
attribute [local go_sem] max2_int min2_int max_two min_two
set_option linter.unusedVariables false
set_option linter.unusedSimpArgs false
theorem param_to (w : World) (base : Nat) (P : Nat → Prop) (B : Nat) (vP vD : Value) (p : S52) (d : List S62) (l : List Int) (hl : parF p.f2 = l) (h : RS w base P B vP vD p d) :
    Calls Tryd.prog 87 #[.pointer (some ⟨B, 0, none⟩)] w fun e w' => e = .returned (.tuple #[]) ∧ Left w base P B vD (withPar p l) d w' := by
  subst hl
  exact param_calls w base P B vP vD p d h
/-- slices.Clone, its length by another name. -/
def Fresh2 (w w' : World) (xs : List Int) (n : Nat) (e : Ending) : Prop := ∃ g cap cells, e = .returned (.slice (some ⟨g, 0, none⟩) n cap) ∧ w.heap.size ≤ g ∧ n ≤ cap ∧ IntsAt w' g cells xs ∧ Below w.heap.size w w'
theorem clone_to (w : World) (base : Nat) (ok : Nat → Prop) (A : Option Addr) (xs : List Int) (k c : Nat) (hk : xs.length = k + 1) (h : Kd.V (Kd.int .i64) 3 w base ok (.slice A xs.length c) xs) (hf : k ≤ 100000) :
    Calls Tryd.prog 88 #[.slice A (k + 1) c] w fun e w' => Fresh2 w w' xs (k + 1) e := by
  have h2 := clone_calls w base ok (.slice A xs.length c) xs h (by omega) (by omega)
  unfold Fresh at h2
  unfold Fresh2
  rw [← hk]
  exact h2
def csiRow (l : List Int) (c : Int) : List Int := l.set (l.length - 1) (min (10 * l.getD (l.length - 1) 0 + c - 48) 9999)
/-- A number of a row, written. -/
theorem IntsAt.set {w : World} {g k : Nat} {cells : Array Value} {xs : List Int} (h : IntsAt w g cells xs) (hk : k < xs.length) (u : Int) : IntsAt (w.setCell ⟨g, k, none⟩ (.int .i64 u)) g (cells.setIfInBounds k (.int .i64 u)) (xs.set k u) := by
  have hc : k < cells.size := by
    have := h.at_ k _ (List.getElem?_eq_getElem hk)
    exact (Array.getElem?_eq_some_iff.1 this).1
  refine ⟨blk_put h.blk k _ rfl, fun j x hj => ?_, by rw [List.length_set]; exact h.few⟩
  by_cases e : j = k
  · subst e
    rw [List.getElem?_set_self hk] at hj
    simp only [Option.some.injEq] at hj
    subst hj
    rw [Array.getElem?_setIfInBounds_self_of_lt hc]
  · rw [List.getElem?_set_ne (Ne.symm e)] at hj
    rw [Array.getElem?_setIfInBounds_ne (Ne.symm e)]
    exact h.at_ j x hj
theorem RS.parSet {w : World} {base B g k cap : Nat} {P : Nat → Prop} {vD : Value} {p : S52} {d : List S62} {cells : Array Value} {xs : List Int} (h : RS w base P B (.slice (some ⟨g, 0, none⟩) xs.length cap) vD (withPar p xs) d)
    (hA : IntsAt w g cells xs) (hc : xs.length ≤ cap) (hk : k < xs.length) (u : Int) (hgB : g ≠ B) (hgD : some g ≠ vD.ownBlock) (hgb : base ≤ g) (hgN : Kd.N k62 62 w base (fun k => ((P k ∨ base ≤ k) ∧ k ≠ B) ∧ k ≠ g) vD d) :
    RS (w.setCell ⟨g, k, none⟩ (.int .i64 u)) base P B (.slice (some ⟨g, 0, none⟩) xs.length cap) vD (withPar p (xs.set k u)) d := by
  have h2 := (hA.set hk u).V (base := base) (cap := cap) (ok := fun k => ((P k ∨ base ≤ k) ∧ k ≠ B) ∧ some k ≠ vD.ownBlock) (by rw [List.length_set]; exact hc) ⟨⟨.inr hgb, hgB⟩, hgD⟩
  rw [List.length_set] at h2
  exact ⟨(Below.heap_setCell w _ _ B (Ne.symm hgB)).trans h.blk, h.low, h.old, h2, Kd.N_mono (Kd.N_far hgN (fun k hk => hk.2) _) (fun k hk => hk.1)⟩
set_option maxRecDepth 100000 in
set_option maxHeartbeats 4000000 in
theorem csi_digit (c : Int) (l : List Int) (k : Nat) (x : Int) (w : World) (base : Nat) (P : Nat → Prop) (B : Nat) (vP vD : Value) (p : S52) (d : List S62) (h : RS w base P B vP vD p d) (hd : d.length ≤ 1000000000) (hl0 : parF p.f2 = l) (hk0 : l.length = k + 1) (hk2 : k ≤ 15) (hx : l[k]? = some x) (hx0 : 0 ≤ x) (hx1 : x ≤ 9999) (hc : inB c 48 57 = true) :
    Calls Tryd.prog 71 #[.pointer (some ⟨B, 0, none⟩), .int .i64 c] w fun e w' => e = .returned (.tuple #[]) ∧ Left w base P B vD (withPar p (csiRow l c)) d w' := by
  have hc0 : 48 ≤ c := by unfold inB at hc; simp at hc; exact hc.1
  have hc1 : c ≤ 57 := by unfold inB at hc; simp at hc; exact hc.2
  have hrow : csiRow l c = l.set k (min (10 * x + c - 48) 9999) := by unfold csiRow; rw [hk0, Nat.add_sub_cancel, List.getD_eq_getElem?_getD, hx]; rfl
  have HROW := Aside0.mk hrow
  have HX := Aside0.mk hx
  have hl := Aside0.mk hl0
  have hk := Aside0.mk hk0
  have H := Aside0.mk h
  have hu50 := Tryd.underlying50
  clear h hrow hx hl0 hk0
  go_enter Tryd.func71, Tryd.ntmps71
  go_wp2_with (first | (go_at_call 58; (with_reducible refine (in_calls _ _ _ _).mono ?_); rintro e w1 ⟨rfl, rfl⟩) | (go_at_call 87; (with_reducible refine (param_to _ base P B _ _ p d l hl.out H.out).mono ?_); rintro e w1 ⟨rfl, vP1, vD1, h1, hb1, hk1⟩; obtain ⟨A1, c1, e1⟩ := Kd.V_slice h1.par; subst e1; have z2 : w1.cell? ⟨B, 2, none⟩ = some (.slice A1 (k + 1) c1) := (h1.cell 2).trans (by rw [← hk.out]; rfl); have zf2 : w1.frozen? ⟨B, 2, none⟩ = false := h1.frozen 2; have H1 := Aside0.mk h1; have B1 := Aside0.mk hb1; have K1 := Aside0.mk hk1; clear h1 hb1 hk1) | (go_at_call 88; (with_reducible refine (clone_to _ base _ _ l _ _ hk.out H1.out.par (by omega)).mono ?_); rintro e w2 ⟨g, cap, cells, rfl, hg, hcap, hA, hb2⟩; have G := Aside0.mk hg; have CP := Aside0.mk hcap; have IA := Aside0.mk hA; have B2 := Aside0.mk hb2; have y2 : w2.cell? ⟨B, 2, none⟩ = some (.slice A1 (k + 1) c1) := (blk_cell (blk_below H1.out.blk hb2) 2).trans ((H1.out.cell 2).symm.trans z2); have yf2 : w2.frozen? ⟨B, 2, none⟩ = false := blk_frozen (blk_below H1.out.blk hb2) 2; clear hg hcap hA hb2))
  have hgB : g ≠ B := by have := G.out; have := blk_lt H1.out.blk; omega
  have RS3 := Aside0.mk (H1.out.parNew B2.out G.out IA.out (by rw [hk.out]; exact CP.out))
  rw [hk.out] at RS3
  have KP3 := Aside0.mk ((K1.out.below B2.out).put 2 (.slice (some ⟨g, 0, none⟩) (k + 1) cap))
  have IA3 := Aside0.mk (⟨(Below.heap_setCell w2 ⟨B, 2, none⟩ (.slice (some ⟨g, 0, none⟩) (k + 1) cap) g hgB).trans IA.out.blk, IA.out.at_, IA.out.few⟩ : IntsAt (w2.setCell ⟨B, 2, none⟩ (.slice (some ⟨g, 0, none⟩) (k + 1) cap)) g cells l)
  have BL3 := Aside0.mk ((B1.out.trans (B2.out.mono H1.out.size)).setCell (p := ⟨B, 2, none⟩) H1.out.low (.slice (some ⟨g, 0, none⟩) (k + 1) cap))
  have N3 := Aside0.mk (Kd.N_far (p := ⟨B, 2, none⟩) (Kd.N_below (Kd.N_elderB H1.out.don g G.out) B2.out) (fun k hk => hk.1.2) (.slice (some ⟨g, 0, none⟩) (k + 1) cap))
  have OKN := Aside0.mk (H1.out.okNew G.out)
  have LG := Aside0.mk (Nat.le_trans H1.out.size G.out)
  have LG0 := Aside0.mk (Nat.le_trans K1.out.size G.out)
  clear y2 yf2 z2 zf2
  generalize w2.setCell ⟨B, 2, none⟩ (.slice (some ⟨g, 0, none⟩) (k + 1) cap) = w3 at RS3 KP3 IA3 BL3 N3 ⊢
  have z2 : w3.cell? ⟨B, 2, none⟩ = some (.slice (some ⟨g, 0, none⟩) (k + 1) cap) := RS3.out.cell 2
  have zg : w3.cell? ⟨g, k, none⟩ = some (.int .i64 x) := (blk_cell IA3.out.blk k).trans (IA3.out.at_ k x HX.out)
  have kk0 : (0 : Int) ≤ (k : Int) := Int.natCast_nonneg _
  have kk1 : (k : Int) < (k : Int) + 1 := by omega
  have kk2 : ((k : Int)).toNat = k := Int.toNat_natCast _
  have ww1 : IntKind.i64.wrap (10 * x) = 10 * x := IntWalk.i64_in _ (by omega)
  have ww2 : IntKind.i64.wrap (10 * x + c) = 10 * x + c := IntWalk.i64_in _ (by omega)
  have ww3 : IntKind.i64.wrap (10 * x + c - 48) = 10 * x + c - 48 := IntWalk.i64_in _ (by omega)
  go_still_tail 20, (by kernel_rfl)
  change wpList _ _ _ _ _ w3.drew
  have RS4 := Aside0.mk RS3.out.drew
  have KP4 := Aside0.mk KP3.out.drew
  have IA4 := Aside0.mk (⟨IA3.out.blk, IA3.out.at_, IA3.out.few⟩ : IntsAt w3.drew g cells l)
  have BL4 := Aside0.mk BL3.out.drew
  have N4 := Aside0.mk (Kd.N_drew N3.out)
  clear z2 zg
  generalize w3.drew = w4 at RS4 KP4 IA4 BL4 N4 ⊢
  have zg : w4.cell? ⟨g, k, none⟩ = some (.int .i64 x) := (blk_cell IA4.out.blk k).trans (IA4.out.at_ k x HX.out)
  have zfg : w4.frozen? ⟨g, k, none⟩ = false := blk_frozen IA4.out.blk k
  go_wp2
  all_goals
    go_end0
    refine ⟨rfl, ?_⟩
    rw [HROW.out]
    have RS5 := RS4.out
    rw [← hk.out] at RS5
    first | (have em : min (10 * x + c - 48) 9999 = 9999 := (by omega); rw [em]; exact ⟨_, _, RS5.parSet (xs := l) (k := k) IA4.out (by rw [hk.out]; exact CP.out) (by rw [hk.out]; exact Nat.lt_succ_self k) (9999) hgB OKN.out.2 LG.out N4.out, BL4.out.setCell (p := ⟨g, k, none⟩) LG.out _, KP4.out.far (p := ⟨g, k, none⟩) LG0.out _⟩) | (have em : min (10 * x + c - 48) 9999 = 10 * x + c - 48 := (by omega); rw [em]; exact ⟨_, _, RS5.parSet (xs := l) (k := k) IA4.out (by rw [hk.out]; exact CP.out) (by rw [hk.out]; exact Nat.lt_succ_self k) (10 * x + c - 48) hgB OKN.out.2 LG.out N4.out, BL4.out.setCell (p := ⟨g, k, none⟩) LG.out _, KP4.out.far (p := ⟨g, k, none⟩) LG0.out _⟩)
end Go.Proofs.YthipdgnbpdngpaaDoor
