-- Copies of the texts YtplngfammfdemaaGStay, YtplngfammfdemaaQx29, YtplngfammfdemaaMS7 with what this claim does not reach left out (prune.py, a program of this project).
import Derived.Test.YtplngfammfdemaaZyUCat
import Derived.Test.YtplngfammfdemaaZyUSplitL
import Derived.Test.YtplngfammfdemaaZyUSplitO
import Derived.Test.YtplngfammfdemaaZyGCont
import Derived.Test.YtplngfammfdemaaZyMF0
import Derived.Test.YtplngfammfdemaaZyGShort
import Derived.Test.YtplngfammfdemaaZyMS1
import Derived.Test.YtplngfammfdemaaZyQx21
section
namespace Go.Proofs.Ytplngfammfdemaa
open Go.RowKit Go.Proofs.YtplngfammfdemaaW.PrintWords Go.Proofs.YtplngfammfdemaaW.PrintLast Go.Proofs.YtplngfammfdemaaW.PrintMore Q
set_option linter.unusedVariables false
set_option linter.unusedSimpArgs false
/-- What an exported function answers, in the print's words. -/
def Stay (W w' : World) (P0 : Nat → Prop) (e : Ending) (r1 r2 r3 : Int) (r4 : List S31) (r5 : Int) : Prop := ∃ v : Value, e = .returned (.tuple #[.agg #[.int .i64 r1, .int .i64 r2, .int .i64 r3, v], .int .i64 r5]) ∧ Kd.V k31 31 w' W.heap.size (fun k_ => P0 k_ ∨ W.heap.size ≤ k_) v r4 ∧ Below W.heap.size W w'
theorem stay_out {W w' : World} {P0 : Nat → Prop} {e : Ending} {t : S31} {n : Int} (h : TreeErr W w' P0 e t n) : Stay W w' P0 e t.f0 t.f1 t.f2 t.f3 n := by
  obtain ⟨v, rfl, ⟨A, c, rfl, hl, hF⟩, hb⟩ := h
  exact ⟨_, rfl, ⟨A, c, rfl, hl, hF⟩, hb⟩
theorem stay_in {W : World} {P0 : Nat → Prop} {A : Option Addr} {c : Nat} {l : List S31} (h : Kd.V k31 31 W W.heap.size (fun k_ => P0 k_) (.slice A l.length c) l) : Kd.F k31 W P0 A l.length l ∧ l.length ≤ c := by
  obtain ⟨A', c', e, hl, hF⟩ := h
  simp only [Value.slice.injEq] at e
  obtain ⟨rfl, _, rfl⟩ := e
  exact ⟨hF, hl⟩
theorem tree_Kill.mono (a0 a1 a2 : Int) (l : List S31) (w h pane : Int) (k : Nat) : LeO (tree_Kill.f k a0 a1 a2 l w h pane) (tree_Kill.f (k + 1) a0 a1 a2 l w h pane) := LeO.refl _
theorem tree_Fit.mono (a0 a1 a2 : Int) (l : List S31) (w h w2 h2 : Int) (k : Nat) : LeO (tree_Fit.f k a0 a1 a2 l w h w2 h2) (tree_Fit.f (k + 1) a0 a1 a2 l w h w2 h2) := LeO.refl _
theorem tree_Turn.mono (a0 a1 a2 : Int) (l : List S31) (w h : Int) (back : Bool) (k : Nat) : LeO (tree_Turn.f k a0 a1 a2 l w h back) (tree_Turn.f (k + 1) a0 a1 a2 l w h back) := LeO.refl _
theorem tree_Swap.mono (a0 a1 a2 : Int) (l : List S31) (w h a b : Int) (k : Nat) : LeO (tree_Swap.f k a0 a1 a2 l w h a b) (tree_Swap.f (k + 1) a0 a1 a2 l w h a b) := LeO.refl _
theorem tree_Split.mono (a0 a1 a2 : Int) (l : List S31) (w h pane kind fresh : Int) (k : Nat) : LeO (tree_Split.f k a0 a1 a2 l w h pane kind fresh) (tree_Split.f (k + 1) a0 a1 a2 l w h pane kind fresh) := LeO.refl _
theorem tree_Split.calls (k : Nat) (a0 a1 a2 : Int) (P0 : Nat → Prop) (A : Option Addr) (c : Nat) (l : List S31) (w h pane kind fresh : Int) (r1 r2 r3 : Int) (r4 : List S31) (r5 : Int) (W : World) (hs : Kd.V k31 31 W W.heap.size (fun k_ => P0 k_) (.slice A l.length c) l) (hf : tree_Split.f k a0 a1 a2 l w h pane kind fresh = some (r1, r2, r3, r4, r5)) :
    Calls Try.prog 42 #[.agg #[.int .i64 a0, .int .i64 a1, .int .i64 a2, .slice A l.length c], .int .i64 w, .int .i64 h, .int .i64 pane, .int .i64 kind, .int .i64 fresh] W fun e w' => ∃ v : Value, e = .returned (.tuple #[.agg #[.int .i64 r1, .int .i64 r2, .int .i64 r3, v], .int .i64 r5]) ∧ Kd.V k31 31 w' W.heap.size (fun k_ => P0 k_ ∨ W.heap.size ≤ k_) v r4 ∧ Below W.heap.size W w' := by
  obtain ⟨hF, hc⟩ := stay_in hs
  unfold tree_Split.f at hf
  by_cases hB : rightB ⟨a0, a1, a2, l⟩ w h = true
  · have hr := rightB_iff.1 hB
    rw [if_pos hB] at hf
    unfold splitG at hf
    by_cases hk : (kind = 1 ∨ kind = 2) ∧ 1 ≤ fresh ∧ fresh ≤ 999
    · rw [if_pos hk] at hf
      by_cases hp : pane ∈ psA ⟨a0, a1, a2, l⟩
      · rw [if_pos hp] at hf
        by_cases hfr : fresh ∈ psA ⟨a0, a1, a2, l⟩
        · rw [if_pos hfr] at hf
          simp only [fiveZ, Option.some.injEq, Prod.mk.injEq] at hf
          obtain ⟨rfl, rfl, rfl, rfl, rfl⟩ := hf
          exact (Split_twice hr hk hp hfr W P0 A c hF hc).mono fun e w' h => stay_out h
        · rw [if_neg hfr] at hf
          by_cases h8 : (psA ⟨a0, a1, a2, l⟩).length = 8
          · rw [if_pos h8] at hf
            simp only [fiveZ, Option.some.injEq, Prod.mk.injEq] at hf
            obtain ⟨rfl, rfl, rfl, rfl, rfl⟩ := hf
            exact (Split_full hr hk hp hfr h8 W P0 A c hF hc).mono fun e w' h => stay_out h
          · rw [if_neg h8] at hf
            by_cases hn : cellsR R0 ⟨a0, a1, a2, l⟩ w h pane kind < 3
            · rw [if_pos hn] at hf
              simp only [fiveZ, Option.some.injEq, Prod.mk.injEq] at hf
              obtain ⟨rfl, rfl, rfl, rfl, rfl⟩ := hf
              exact (Split_room hr hk hp hfr h8 hn W P0 A c hF hc).mono fun e w' h => stay_out h
            · rw [if_neg hn] at hf
              simp only [fiveT, Option.some.injEq, Prod.mk.injEq] at hf
              obtain ⟨rfl, rfl, rfl, rfl, rfl⟩ := hf
              exact (Split_do hr hk hp hfr h8 hn W P0 A c hF hc).mono fun e w' h => stay_out h
      · rw [if_neg hp] at hf
        simp only [fiveZ, Option.some.injEq, Prod.mk.injEq] at hf
        obtain ⟨rfl, rfl, rfl, rfl, rfl⟩ := hf
        exact (Split_none hr hk hp W P0 A c hF hc).mono fun e w' h => stay_out h
    · rw [if_neg hk] at hf
      simp only [fiveZ, Option.some.injEq, Prod.mk.injEq] at hf
      obtain ⟨rfl, rfl, rfl, rfl, rfl⟩ := hf
      exact (Split_arg hr hk W P0 A c hF hc).mono fun e w' h => stay_out h
  · rw [if_neg hB] at hf; cases hf
end Go.Proofs.Ytplngfammfdemaa
end
section
namespace Go.Proofs.Ytplngfammfdemaa.Q
open Go.RowKit Go.Proofs.Ytplngfammfdemaa Go.Proofs.YtplngfammfdemaaW.PrintWords Go.Proofs.YtplngfammfdemaaW.PrintLast Go.Proofs.YtplngfammfdemaaW.PrintMore
attribute [local go_sem] max2_int min2_int max_two min_two max_three min_three max_four min_four   -- for this text's walks alone
set_option linter.unusedVariables false
set_option linter.unusedSimpArgs false
mutual
def backseatref11_Count.l0 : Nat → Int → Int → List (S31) → Int → Int → Option (Int)
 | 0, _, _, _, _, _ => none
 | k + 1, x1, x5, x9, x10, x11 => if x11 < x10 then (if 0 ≤ x11 then (if x11 < (x9.length : Int) then (if x5 > x1 then (some x5) else ((backseatref11_Count.f k ((rd_T31 x9 x11).f0) ((rd_T31 x9 x11).f1) ((rd_T31 x9 x11).f2) ((rd_T31 x9 x11).f3) (wrap64 (x1 - x5))).bind fun t541 => (backseatref11_Count.l0 k x1 (wrap64 (x5 + t541)) x9 x10 (wrap64 (x11 + 1))))) else (none)) else (none)) else (some x5)
def backseatref11_Count.f : Nat → Int → Int → Int → List (S31) → Int → Option (Int)
 | 0, _, _, _, _, _ => none
 | k + 1, a0_0, a0_1, a0_2, l0_3, a1 => backseatref11_Count.l0 k a1 1 l0_3 (l0_3.length : Int) 0
end
theorem backseatref11_Count.mono_l : ∀ k, (∀ y0 y1 y2 y3 y4, LeO (backseatref11_Count.f k y0 y1 y2 y3 y4) (backseatref11_Count.f (k + 1) y0 y1 y2 y3 y4)) ∧ (∀ y0 y1 y2 y3 y4, LeO (backseatref11_Count.l0 k y0 y1 y2 y3 y4) (backseatref11_Count.l0 (k + 1) y0 y1 y2 y3 y4))
 | 0 => ⟨fun _ _ _ _ _ r h => by simp [backseatref11_Count.f] at h, fun _ _ _ _ _ r h => by simp [backseatref11_Count.l0] at h⟩
 | k + 1 => by
  obtain ⟨ih0, ih1⟩ := backseatref11_Count.mono_l k
  refine ⟨?_, ?_⟩
  ·intro y0 y1 y2 y3 y4
   unfold backseatref11_Count.f
   repeat' first
   | (with_reducible exact ih0 _ _ _ _ _)
   | (with_reducible exact ih1 _ _ _ _ _)
   | (with_reducible exact LeO.refl _)
   | (with_reducible exact LeO.none _)
   | (with_reducible refine LeO.ite ?_ ?_)
   | (with_reducible refine LeO.bind ?_ (fun _ => ?_))
   | exact ih0 _ _ _ _ _
   | exact ih1 _ _ _ _ _
   | exact LeO.none _
   | refine LeO.ite ?_ ?_
   | refine LeO.bind ?_ (fun _ => ?_)
  ·intro y0 y1 y2 y3 y4
   unfold backseatref11_Count.l0
   repeat' first
   | (with_reducible exact ih0 _ _ _ _ _)
   | (with_reducible exact ih1 _ _ _ _ _)
   | (with_reducible exact LeO.refl _)
   | (with_reducible exact LeO.none _)
   | (with_reducible refine LeO.ite ?_ ?_)
   | (with_reducible refine LeO.bind ?_ (fun _ => ?_))
   | exact ih0 _ _ _ _ _
   | exact ih1 _ _ _ _ _
   | exact LeO.none _
   | refine LeO.ite ?_ ?_
   | refine LeO.bind ?_ (fun _ => ?_)
theorem backseatref11_Count.mono : ∀ a0 a1 a2 a3 a4 k, LeO (backseatref11_Count.f k a0 a1 a2 a3 a4) (backseatref11_Count.f (k + 1) a0 a1 a2 a3 a4) := by
 intro a0 a1 a2 a3 a4 k
 obtain ⟨ih0, ih1⟩ := backseatref11_Count.mono_l k
 exact ih0 a0 a1 a2 a3 a4
set_option maxHeartbeats 8000000 in
set_option maxRecDepth 100000 in
theorem backseatref11_Count.calls (k : Nat) : ∀ (a0_0 : Int) (a0_1 : Int) (a0_2 : Int) (A0_3 : Option Addr) (c0_3 : Nat) (l0_3 : List (S31)) (a1 : Int) (r : Int) (w : World) (hr0_3 : Kd.C k31 w A0_3 l0_3.length l0_3) (hc0_3 : l0_3.length ≤ c0_3) (h : backseatref11_Count.f k a0_0 a0_1 a0_2 l0_3 a1 = some r),
 Calls Try.prog 27 #[.agg #[.int .i64 a0_0, .int .i64 a0_1, .int .i64 a0_2, .slice A0_3 l0_3.length c0_3], .int .i64 a1] w fun e w' => e = .returned (.int .i64 r) ∧ Below w.heap.size w w' := by
 induction k using Nat.strongRecOn with
 | _ k ih =>
 intro a0_0 a0_1 a0_2 A0_3 c0_3 l0_3 a1 r w hr0_3 hc0_3 h
 cases k with
 | zero => exact absurd h (by simp [backseatref11_Count.f])
 | succ k =>
 simp only [backseatref11_Count.f] at h
 have hu31 := Try.underlying31
 have HR0_3 := zM hr0_3
 have HC0_3 := zM hc0_3
 clear hr0_3 hc0_3
 have HB := zM (Below.refl w.heap.size w)
 have H : (backseatref11_Count.l0 k a1 1 l0_3 (l0_3.length : Int) 0) = some r := h
 clear h
 have H' := zM H
 clear H
 go_enter Try.func27, Try.ntmps27
 go_wp2_with (first | ((with_reducible refine gate_dst (N := 2) rfl ?_); refine box_event ?hg (N := 2) ?hd (cs := #[.int .i64 a0_0, .int .i64 a0_1, .int .i64 a0_2, .slice A0_3 l0_3.length c0_3]) (t := 31) ?hr ?_; (case hd => rfl); (case hg => rfl); (case hr => first | (go_simp; done) | (go_simp; rfl)); intro gb538 hg w3 hbox hb; have BK538 := zM (hbox); have GW538 := zM ((by rw [hg]; exact (below_size (by first | exact HB.out | exact zN HB.out _ | exact zD HB.out)) : w.heap.size ≤ gb538)); have GE538 := GW538; replace HB := zM (below_step (by first | exact HB.out | exact zN HB.out _ | exact zD HB.out) hb); clear hb hbox hg; obtain ⟨hcz4_0, hcz4_1, hcz4_2, hcz4_3, hfz4_0, hfz4_1, hfz4_2, hfz4_3⟩ := cz4 BK538.out))
 go_loopg [5, 11] k (fun kq v5 v11 w' => ∃ (x5_1 : Int) (x11_1 : Int), v5 = .int .i64 x5_1 ∧ v11 = .int .i64 x11_1 ∧ Aside0 (backseatref11_Count.l0 kq a1 x5_1 l0_3 (l0_3.length : Int) x11_1 = some r) ∧ Aside0 (kq ≤ k) ∧ Aside0 (w'.heap[gb538]? = some (.cells #[.int .i64 a0_0, .int .i64 a0_1, .int .i64 a0_2, (.slice A0_3 l0_3.length c0_3)] 31 (0, 0))) ∧ Aside0 (Below w.heap.size w w'))
 case atStart => exact ⟨(1), (0), (by first | rfl | (simp; done) | (simp [*]; done)), (by first | rfl | (simp; done) | (simp [*]; done)), H', ⟨Nat.le_refl _⟩, ⟨by (with_reducible repeat (first | refine blk_drewN ?_ _ | refine blk_drew ?_ | refine blk_alloc ?_ _)); exact BK538.out⟩, ⟨by repeat first | refine zS ?_ GE538.out | exact HB.out | apply zA | apply zN | apply zD⟩⟩
 case round =>
  clear H'
  (try clear c2); (try clear p2); (try clear hcz4_0); (try clear hcz4_1); (try clear hcz4_2); (try clear hcz4_3); (try clear hfz4_0); (try clear hfz4_1); (try clear hfz4_2); (try clear hfz4_3)
  obtain ⟨x5_1, x11_1, rfl, rfl, HA, HK1, BK538, HB⟩ := hrel
  cases gk with
  | zero => exact absurd HA.out (by simp [backseatref11_Count.l0])
  | succ k1 =>
   have H := HA.out
   clear HA
   simp only [backseatref11_Count.l0] at H
   by_cases c5 : x11_1 < (l0_3.length : Int)
   ·rw [if_pos c5] at H
    have c5b0 : decide (x11_1 < (l0_3.length : Int)) = true := decide_eq_true c5
    clear c5
    by_cases c6 : 0 ≤ x11_1
    ·rw [if_pos c6] at H
     have c6b0 : decide (0 ≤ x11_1) = true := decide_eq_true c6
     clear c6
     by_cases c7 : x11_1 < (l0_3.length : Int)
     ·rw [if_pos c7] at H
      have c7b0 : decide (x11_1 < (l0_3.length : Int)) = true := decide_eq_true c7
      clear c7
      by_cases c8 : x5_1 > a1
      ·rw [if_pos c8] at H
       have c8b0 : decide (a1 < x5_1) = true := decide_eq_true c8
       clear c8
       obtain rfl := Option.some.inj H
       have p539 : 0 ≤ (x11_1 : Int) := of_decide_eq_true (by first | (with_reducible assumption) | assumption)
       have q539 : x11_1 < (l0_3.length : Int) := of_decide_eq_true (by first | (with_reducible assumption) | assumption)
       obtain ⟨ad539, A539_3, c539_3, e539, hx539_0, hx539_1, hx539_2, hx539_3, hl539_3, hi539_3⟩ := at_T31 HR0_3.out x11_1 p539 q539
       cases e539
       replace hx539_0 := (HB.out.cell (zL w _ hx539_0)).trans hx539_0
       replace hx539_1 := (HB.out.cell (zL w _ hx539_1)).trans hx539_1
       replace hx539_2 := (HB.out.cell (zL w _ hx539_2)).trans hx539_2
       replace hx539_3 := (HB.out.cell (zL w _ hx539_3)).trans hx539_3
       have HR539_3 := zM hi539_3
       have HC539_3 := zM hl539_3
       clear hi539_3 hl539_3
       replace p539 := eq_true p539
       replace q539 := eq_true q539
       go_wp2_with (first | ((with_reducible refine gate_dst (N := 7) rfl ?_); refine box_event ?hg (N := 7) ?hd (cs := #[.int .i64 0, .int .i64 0, .int .i64 0, .slice none 0 0]) (t := 31) ?hr ?_; (case hd => rfl); (case hg => rfl); (case hr => first | (go_simp; done) | (go_simp; rfl)); intro gb540 hg w9 hbox hb; have BK540 := zM (hbox); have GW540 := zM ((by rw [hg]; exact (below_size (by repeat first | refine zS ?_ GE538.out | exact HB.out | apply zA | apply zN | apply zD)) : w.heap.size ≤ gb540)); have GE540 := GW540; have NB538_540 := zM ((by rw [hg]; exact lt1 BK538.out : gb538 ≠ gb540)); have NB540_538 := zM ((by rw [hg]; exact gt1 BK538.out : gb540 ≠ gb538)); replace BK538 := zM (bb hb BK538.out); replace HB := zM (below_step (by repeat first | refine zS ?_ GE538.out | exact HB.out | apply zA | apply zN | apply zD) hb); clear hb hbox hg; have hnb10 := NB540_538.out; have hnc10 := NB538_540.out; obtain ⟨hcz11_0, hcz11_1, hcz11_2, hcz11_3, hfz11_0, hfz11_1, hfz11_2, hfz11_3⟩ := cz4 BK540.out))
       go_ret
       exact ⟨by first | rfl | (simp [errW_none, errW_some] <;> rfl) | (simp [*, errW_none, errW_some] <;> rfl), by repeat first | refine zS ?_ GE538.out | refine zS ?_ GE540.out | exact HB.out | apply zA | apply zN | apply zD⟩
      ·rw [if_neg c8] at H
       have c8b0 : decide (a1 < x5_1) = false := decide_eq_false c8
       clear c8
       replace H := Option.bind_eq_some_iff.mp H
       obtain ⟨t541, A120, H⟩ := H
       replace H : (backseatref11_Count.l0 k1 a1 (wrap64 (x5_1 + t541)) l0_3 (l0_3.length : Int) (wrap64 (x11_1 + 1))) = some r := H
       have A12 := zM A120
       clear A120
       have H' := zM H
       clear H
       have p539 : 0 ≤ (x11_1 : Int) := of_decide_eq_true (by first | (with_reducible assumption) | assumption)
       have q539 : x11_1 < (l0_3.length : Int) := of_decide_eq_true (by first | (with_reducible assumption) | assumption)
       obtain ⟨ad539, A539_3, c539_3, e539, hx539_0, hx539_1, hx539_2, hx539_3, hl539_3, hi539_3⟩ := at_T31 HR0_3.out x11_1 p539 q539
       cases e539
       replace hx539_0 := (HB.out.cell (zL w _ hx539_0)).trans hx539_0
       replace hx539_1 := (HB.out.cell (zL w _ hx539_1)).trans hx539_1
       replace hx539_2 := (HB.out.cell (zL w _ hx539_2)).trans hx539_2
       replace hx539_3 := (HB.out.cell (zL w _ hx539_3)).trans hx539_3
       have HR539_3 := zM hi539_3
       have HC539_3 := zM hl539_3
       clear hi539_3 hl539_3
       replace p539 := eq_true p539
       replace q539 := eq_true q539
       go_wp2_with (first | ((with_reducible refine gate_dst (N := 7) rfl ?_); refine box_event ?hg (N := 7) ?hd (cs := #[.int .i64 0, .int .i64 0, .int .i64 0, .slice none 0 0]) (t := 31) ?hr ?_; (case hd => rfl); (case hg => rfl); (case hr => first | (go_simp; done) | (go_simp; rfl)); intro gb540 hg w13 hbox hb; have BK540 := zM (hbox); have GW540 := zM ((by rw [hg]; exact (below_size (by repeat first | refine zS ?_ GE538.out | exact HB.out | apply zA | apply zN | apply zD)) : w.heap.size ≤ gb540)); have GE540 := GW540; have NB538_540 := zM ((by rw [hg]; exact lt1 BK538.out : gb538 ≠ gb540)); have NB540_538 := zM ((by rw [hg]; exact gt1 BK538.out : gb540 ≠ gb538)); replace BK538 := zM (bb hb BK538.out); replace HB := zM (below_step (by repeat first | refine zS ?_ GE538.out | exact HB.out | apply zA | apply zN | apply zD) hb); clear hb hbox hg; have hnb14 := NB540_538.out; have hnc14 := NB538_540.out; obtain ⟨hcz15_0, hcz15_1, hcz15_2, hcz15_3, hfz15_0, hfz15_1, hfz15_2, hfz15_3⟩ := cz4 BK540.out) | ((with_reducible refine gate_callee (f := 27) rfl ?_); refine ga (some 24) rfl rfl Try.func27 (by kernel_rfl) rfl #[.agg #[.int .i64 ((rd_T31 l0_3 x11_1).f0), .int .i64 ((rd_T31 l0_3 x11_1).f1), .int .i64 ((rd_T31 l0_3 x11_1).f2), .slice A539_3 ((rd_T31 l0_3 x11_1).f3).length c539_3], .int .i64 (wrap64 (a1 - x5_1))] rfl ?_; (with_reducible refine (ih k1 (by have := HK1.out; omega) ((rd_T31 l0_3 x11_1).f0) ((rd_T31 l0_3 x11_1).f1) ((rd_T31 l0_3 x11_1).f2) _ _ ((rd_T31 l0_3 x11_1).f3) (wrap64 (a1 - x5_1)) t541 _ ?side1 ?side2 A12.out).mono ?_); (case side1 => exact Kd.C_below HR539_3.out (by repeat first | refine zS ?_ GE538.out | refine zS ?_ GE540.out | exact HB.out | apply zA | apply zN | apply zD)); (case side2 => exact HC539_3.out); rintro e w16 ⟨rfl, hb⟩; refine ⟨_, rfl, ?_⟩; replace BK538 := zM (bb hb (far4 NB538_540.out BK538.out)); replace BK540 := zM (bb hb (put4 BK540.out)); replace HB := zM (below_step (by repeat first | refine zS ?_ GE538.out | refine zS ?_ GE540.out | exact HB.out | apply zA | apply zN | apply zD) hb); (try clear hb); (try clear hb2); (try clear hk); (try clear hi)))
       go_roundg k1
       case measure => have := HK1.out; omega
       case rel => exact ⟨(wrap64 (x5_1 + t541)), (wrap64 (x11_1 + 1)), (by first | rfl | (simp; done) | (simp [*]; done)), (by first | rfl | (simp; done) | (simp [*]; done)), H', ⟨by have := HK1.out; omega⟩, ⟨by (with_reducible repeat (first | refine blk_drewN ?_ _ | refine blk_drew ?_ | refine blk_alloc ?_ _)); exact BK538.out⟩, ⟨by repeat first | refine zS ?_ GE538.out | refine zS ?_ GE540.out | exact HB.out | apply zA | apply zN | apply zD⟩⟩
     ·rw [if_neg c7] at H
      exact absurd H (by simp)
    ·rw [if_neg c6] at H
     exact absurd H (by simp)
   ·rw [if_neg c5] at H
    have c5b0 : decide (x11_1 < (l0_3.length : Int)) = false := decide_eq_false c5
    clear c5
    obtain rfl := Option.some.inj H
    go_wp2
    go_ret
    exact ⟨by first | rfl | (simp [errW_none, errW_some] <;> rfl) | (simp [*, errW_none, errW_some] <;> rfl), by repeat first | refine zS ?_ GE538.out | exact HB.out | apply zA | apply zN | apply zD⟩
def backseatlaw11_alive.f (k : Nat)  : Option (Bool) := (tree_Split.f k 0 1 0 ([] : List (S31)) 10 5 1 1 2).bind fun bt542 => (if bt542.2.2.2.2 = 0 then (if (bt542.2.2.2.1.length : Int) = 2 then (if 0 < (bt542.2.2.2.1.length : Int) then (if ((rd_T31 bt542.2.2.2.1 0).f2) = 5 then (if 1 < (bt542.2.2.2.1.length : Int) then (if ((rd_T31 bt542.2.2.2.1 1).f2) = 4 then ((tree_Right.f k bt542.1 bt542.2.1 bt542.2.2.1 bt542.2.2.2.1 10 5).bind fun t552 => (some t552)) else (some false)) else (none)) else (some false)) else (none)) else (some false)) else (some false))
theorem backseatlaw11_alive.mono : ∀ k, LeO (backseatlaw11_alive.f k ) (backseatlaw11_alive.f (k + 1) ) := by
 intro  k
 unfold backseatlaw11_alive.f
 repeat' first
  | (with_reducible exact tree_Right.mono _ _ _ _ _ _ _)
  | (with_reducible exact tree_Split.mono _ _ _ _ _ _ _ _ _ _)
  | (with_reducible exact LeO.refl _)
  | (with_reducible exact LeO.none _)
  | (with_reducible refine LeO.ite ?_ ?_)
  | (with_reducible refine LeO.bind ?_ (fun _ => ?_))
  | exact tree_Right.mono _ _ _ _ _ _ _
  | exact tree_Split.mono _ _ _ _ _ _ _ _ _ _
  | exact LeO.none _
  | refine LeO.ite ?_ ?_
  | refine LeO.bind ?_ (fun _ => ?_)
set_option maxHeartbeats 8000000 in
set_option maxRecDepth 100000 in
theorem backseatlaw11_alive.calls (k : Nat)  (r : Bool) (w : World) (h : backseatlaw11_alive.f k  = some r) :
 Calls Try.prog 28 #[] w fun e w' => e = .returned (.bool r) ∧ Below w.heap.size w w' := by
 have hu31 := Try.underlying31
 have HB := zM (Below.refl w.heap.size w)
 have H : ((tree_Split.f k 0 1 0 ([] : List (S31)) 10 5 1 1 2).bind fun bt542 => (if bt542.2.2.2.2 = 0 then (if (bt542.2.2.2.1.length : Int) = 2 then (if 0 < (bt542.2.2.2.1.length : Int) then (if ((rd_T31 bt542.2.2.2.1 0).f2) = 5 then (if 1 < (bt542.2.2.2.1.length : Int) then (if ((rd_T31 bt542.2.2.2.1 1).f2) = 4 then ((tree_Right.f k bt542.1 bt542.2.1 bt542.2.2.1 bt542.2.2.2.1 10 5).bind fun t552 => (some t552)) else (some false)) else (none)) else (some false)) else (none)) else (some false)) else (some false))) = some r := h
 clear h
 replace H := Option.bind_eq_some_iff.mp H
 obtain ⟨⟨t542, t543, t544, t545, t548⟩, A10, H⟩ := H
 replace H : (if t548 = 0 then (if (t545.length : Int) = 2 then (if 0 < (t545.length : Int) then (if ((rd_T31 t545 0).f2) = 5 then (if 1 < (t545.length : Int) then (if ((rd_T31 t545 1).f2) = 4 then ((tree_Right.f k t542 t543 t544 t545 10 5).bind fun t552 => (some t552)) else (some false)) else (none)) else (some false)) else (none)) else (some false)) else (some false)) = some r := H
 have A1 := zM A10
 clear A10
 by_cases c2 : t548 = 0
 ·rw [if_pos c2] at H
  have c2b0 : (t548 == 0) = true := beq_iff_eq.mpr c2
  have c2b1 : (t548 != 0) = false := bne_eq_false_iff_eq.mpr c2
  clear c2
  by_cases c3 : (t545.length : Int) = 2
  ·rw [if_pos c3] at H
   have c3b0 : ((t545.length : Int) == 2) = true := beq_iff_eq.mpr c3
   have c3b1 : ((t545.length : Int) != 2) = false := bne_eq_false_iff_eq.mpr c3
   clear c3
   by_cases c4 : 0 < (t545.length : Int)
   ·rw [if_pos c4] at H
    have c4b0 : decide (0 < (t545.length : Int)) = true := decide_eq_true c4
    have c4b1 : decide (0 < t545.length) = true := decide_eq_true (by omega)
    clear c4
    by_cases c5 : ((rd_T31 t545 0).f2) = 5
    ·rw [if_pos c5] at H
     have c5b0 : (((rd_T31 t545 0).f2) == 5) = true := beq_iff_eq.mpr c5
     have c5b1 : (((rd_T31 t545 0).f2) != 5) = false := bne_eq_false_iff_eq.mpr c5
     clear c5
     by_cases c6 : 1 < (t545.length : Int)
     ·rw [if_pos c6] at H
      have c6b0 : decide (1 < (t545.length : Int)) = true := decide_eq_true c6
      have c6b1 : decide (1 < t545.length) = true := decide_eq_true (by omega)
      clear c6
      by_cases c7 : ((rd_T31 t545 1).f2) = 4
      ·rw [if_pos c7] at H
       have c7b0 : (((rd_T31 t545 1).f2) == 4) = true := beq_iff_eq.mpr c7
       have c7b1 : (((rd_T31 t545 1).f2) != 4) = false := bne_eq_false_iff_eq.mpr c7
       clear c7
       replace H := Option.bind_eq_some_iff.mp H
       obtain ⟨t552, A80, H⟩ := H
       replace H : (some t552) = some r := H
       have A8 := zM A80
       clear A80
       obtain rfl := Option.some.inj H
       go_enter Try.func28, Try.ntmps28
       go_wp2_with (first | ((with_reducible refine gate_callee (f := 42) rfl ?_); refine ga (some 5) rfl rfl Try.func42 (by kernel_rfl) rfl #[.agg #[.int .i64 0, .int .i64 1, .int .i64 0, .slice none 0 0], .int .i64 10, .int .i64 5, .int .i64 1, .int .i64 1, .int .i64 2] rfl ?_; (refine (tree_Split.calls k 0 1 0 (fun k_ => False) _ _ ([] : List (S31)) 10 5 1 1 2 t542 t543 t544 t545 t548 _ ?side1 A1.out).mono ?_); (case side1 => exact Kd.V_nil _ _ _ _ _); rintro e w9 ⟨v546, rfl, ho0, hb⟩; refine ⟨_, rfl, ?_⟩; have HO547 := zM (Kd.V_lower (Kd.V_mono (ok' := fun k_ => True) ho0 (fun k_ hk_ => trivial)) (below_size (by first | exact HB.out | exact zN HB.out _ | exact zD HB.out))); replace HB := zM (below_step (by first | exact HB.out | exact zN HB.out _ | exact zD HB.out) hb); (try clear hb); (try clear hb2); (try clear hk); (try clear hi); (try clear ho0)) | ((with_reducible refine gate_dst (N := 1) rfl ?_); (try (refine gate_guard (by rfl) ?_; dsimp only)); refine box_event ?hg (N := 1) ?hd (cs := #[.int .i64 0, .int .i64 0, .int .i64 0, .slice none 0 0]) (t := 31) ?hr ?_; (case hd => rfl); (case hg => rfl); (case hr => first | (go_simp; done) | (go_simp; rfl)); intro gb549 hg w10 hbox hb; have BK549 := zM (hbox); have GW549 := zM ((by rw [hg]; exact (below_size (by first | exact HB.out | exact zN HB.out _ | exact zD HB.out)) : w.heap.size ≤ gb549)); have GE549 := GW549; replace HO547 := zM (Kd.V_below (Kd.V_elderB (by (with_reducible repeat (first | apply Kd.V_alloc | apply Kd.V_drewN | apply Kd.V_drew)); exact HO547.out) gb549 (Nat.le_of_eq hg.symm)) hb); replace HB := zM (below_step (by first | exact HB.out | exact zN HB.out _ | exact zD HB.out) hb); clear hb hbox hg; obtain ⟨hcz11_0, hcz11_1, hcz11_2, hcz11_3, hfz11_0, hfz11_1, hfz11_2, hfz11_3⟩ := cz4 BK549.out; obtain ⟨Ao12, co12, eo12⟩ := Kd.V_slice HO547.out; subst eo12) | ((with_reducible refine gate_store (t := 31) (p := 1) rfl ?_); refine store_event (t := 31) (p := 1) (v := ?vo_w13) (w1 := ((((w10.setCell ⟨gb549, 0, none⟩ (.int .i64 t542)).setCell ⟨gb549, 1, none⟩ (.int .i64 t543)).setCell ⟨gb549, 2, none⟩ (.int .i64 t544)).setCell ⟨gb549, 3, none⟩ (.slice Ao12 t545.length co12))) ?hg ?ho ?hn ?hr ?_; (case ho => rfl); (case hg => rfl); (case hn => rfl); (case hr => first | (go_simp; done) | (go_simp; rfl)); intro w13 hw; have n0_ : Aside0 (Kd.V k31 31 w13 w.heap.size (fun k_ => k_ ≠ gb549) (.slice Ao12 t545.length co12) t545) := ⟨(by rw [hw]; exact (by (with_reducible repeat (first | apply Kd.V_alloc | apply Kd.V_drewN | apply Kd.V_drew)); exact Kd.V_mono (Kd.V_far (p := ⟨gb549, 3, none⟩) (Kd.V_far (p := ⟨gb549, 2, none⟩) (Kd.V_far (p := ⟨gb549, 1, none⟩) (Kd.V_far (p := ⟨gb549, 0, none⟩) (Kd.V_mono HO547.out (fun k_ hk => (⟨hk, hk.2⟩ : _ ∧ k_ ≠ gb549))) (fun _ hk => hk.2) (.int .i64 t542)) (fun _ hk => hk.2) (.int .i64 t543)) (fun _ hk => hk.2) (.int .i64 t544)) (fun _ hk => hk.2) (.slice Ao12 t545.length co12)) (fun _ hk => hk.1.2)))⟩; have n1_ : Aside0 (w13.heap[gb549]? = some (.cells #[.int .i64 t542, .int .i64 t543, .int .i64 t544, .slice Ao12 t545.length co12] 31 (0, 0))) := ⟨(by rw [hw]; exact (by exact (put4 BK549.out)))⟩; have n2_ : Aside0 (Below w.heap.size w w13) := ⟨(by rw [hw]; exact (by repeat first | refine zS ?_ GE549.out | exact HB.out | apply zA | apply zN | apply zD))⟩; clear hw; clear HO547; clear BK549; clear HB; have HO547 := n0_; have BK549 := n1_; have HB := n2_; clear n0_ n1_ n2_; obtain ⟨hcz14_0, hcz14_1, hcz14_2, hcz14_3, hfz14_0, hfz14_1, hfz14_2, hfz14_3⟩ := cz4 BK549.out; have p550 : 0 ≤ (0 : Int) := (by omega); have q550 : 0 < (t545.length : Int) := of_decide_eq_true (by first | (with_reducible assumption) | assumption); obtain ⟨ad550, A550_3, c550_3, e550, hx550_0, hx550_1, hx550_2, hx550_3, hl550_3, hi550_3⟩ := at_T31 (Kd.V_reads' HO547.out).2.2 0 p550 q550; cases e550; obtain ⟨ce550, hce550, hMe550, hcc550⟩ := Kd.V_get HO547.out z31 0 p550 (by first | exact q550 | exact of_decide_eq_true (by first | (with_reducible assumption) | assumption) | (have e_ := (Kd.V_reads' HO547.out).1; omega)); obtain ⟨ua550_3, uc550_3, rfl, ul550_3, ge550_3⟩ := k31_openF hMe550; have hv550_3 := hcc550 3 _ rfl; rw [add_field _ _ 3 (by omega)] at hv550_3; replace hv550_3 := Option.some.inj (hv550_3.symm.trans hx550_3); injection hv550_3 with hva_ hvn_ hvc_; rw [hva_] at ge550_3; rw [hvc_] at ul550_3; have HL550_3 := zM (show Kd.V k31 31 _ w.heap.size _ _ ((rd_T31 t545 0).f3) from Kd.V_mk ul550_3 ge550_3); clear hva_ hvn_ hvc_ ge550_3 ul550_3; clear hcc550 hce550; have qi550 : (0 < t545.length) = True := eq_true (by omega); (try rw [show ((0 : Int)).toNat = 0 from rfl] at hx550_0); (try rw [show 0 * 4 = 0 from rfl] at hx550_0); (try rw [Addr.add_zero'] at hx550_0); (try rw [show ((0 : Int)).toNat = 0 from rfl] at hx550_1); (try rw [show 0 * 4 = 0 from rfl] at hx550_1); (try rw [Addr.add_zero'] at hx550_1); (try rw [show ((0 : Int)).toNat = 0 from rfl] at hx550_2); (try rw [show 0 * 4 = 0 from rfl] at hx550_2); (try rw [Addr.add_zero'] at hx550_2); (try rw [show ((0 : Int)).toNat = 0 from rfl] at hx550_3); (try rw [show 0 * 4 = 0 from rfl] at hx550_3); (try rw [Addr.add_zero'] at hx550_3); have HR550_3 := zM hi550_3; have HC550_3 := zM hl550_3; clear hi550_3 hl550_3; replace p550 := eq_true p550; replace q550 := eq_true q550; have p551 : 0 ≤ (1 : Int) := (by omega); have q551 : 1 < (t545.length : Int) := of_decide_eq_true (by first | (with_reducible assumption) | assumption); obtain ⟨ad551, A551_3, c551_3, e551, hx551_0, hx551_1, hx551_2, hx551_3, hl551_3, hi551_3⟩ := at_T31 (Kd.V_reads' HO547.out).2.2 1 p551 q551; obtain rfl : ad550 = ad551 := (by injection e551); obtain ⟨ce551, hce551, hMe551, hcc551⟩ := Kd.V_get HO547.out z31 1 p551 (by first | exact q551 | exact of_decide_eq_true (by first | (with_reducible assumption) | assumption) | (have e_ := (Kd.V_reads' HO547.out).1; omega)); obtain ⟨ua551_3, uc551_3, rfl, ul551_3, ge551_3⟩ := k31_openF hMe551; have hv551_3 := hcc551 3 _ rfl; rw [add_field _ _ 3 (by omega)] at hv551_3; replace hv551_3 := Option.some.inj (hv551_3.symm.trans hx551_3); injection hv551_3 with hva_ hvn_ hvc_; rw [hva_] at ge551_3; rw [hvc_] at ul551_3; have HL551_3 := zM (show Kd.V k31 31 _ w.heap.size _ _ ((rd_T31 t545 1).f3) from Kd.V_mk ul551_3 ge551_3); clear hva_ hvn_ hvc_ ge551_3 ul551_3; clear hcc551 hce551; (try simp only [show (1 : Int).toNat = 1 from rfl, Nat.reduceMul, Nat.reduceEqDiff, Go.Addr.add, ↓reduceIte] at hx551_0); (try simp only [show (1 : Int).toNat = 1 from rfl, Nat.reduceMul, Nat.reduceEqDiff, Go.Addr.add, ↓reduceIte] at hx551_1); (try simp only [show (1 : Int).toNat = 1 from rfl, Nat.reduceMul, Nat.reduceEqDiff, Go.Addr.add, ↓reduceIte] at hx551_2); (try simp only [show (1 : Int).toNat = 1 from rfl, Nat.reduceMul, Nat.reduceEqDiff, Go.Addr.add, ↓reduceIte] at hx551_3); have qi551 : (1 < t545.length) = True := eq_true (by omega); (try rw [show ((1 : Int)).toNat = 1 from rfl] at hx551_0); (try rw [show 1 * 4 = 4 from rfl] at hx551_0); (try rw [show ((1 : Int)).toNat = 1 from rfl] at hx551_1); (try rw [show 1 * 4 = 4 from rfl] at hx551_1); (try rw [show ((1 : Int)).toNat = 1 from rfl] at hx551_2); (try rw [show 1 * 4 = 4 from rfl] at hx551_2); (try rw [show ((1 : Int)).toNat = 1 from rfl] at hx551_3); (try rw [show 1 * 4 = 4 from rfl] at hx551_3); have HR551_3 := zM hi551_3; have HC551_3 := zM hl551_3; clear hi551_3 hl551_3; replace p551 := eq_true p551; replace q551 := eq_true q551) | (go_at_call 19; (with_reducible refine (tree_Right.calls k t542 t543 t544 _ _ t545 10 5 t552 _ ?side1 ?side2 A8.out).mono ?_); (case side1 => repeat (first | exact (Kd.V_reads' HO547.out).2.2 | (with_reducible refine Kd.C_alloc ?_ _) | (with_reducible refine Kd.C_drewN ?_ _) | (with_reducible refine Kd.C_drew ?_))); (case side2 => exact (Kd.V_reads' HO547.out).2.1); rintro e w15 ⟨rfl, hb⟩; replace HO547 := zM (Kd.V_below (by (with_reducible repeat (first | apply Kd.V_alloc | apply Kd.V_drewN | apply Kd.V_drew)); exact HO547.out) hb); replace HL550_3 := zM (Kd.V_below (by (with_reducible repeat (first | apply Kd.V_alloc | apply Kd.V_drewN | apply Kd.V_drew)); exact HL550_3.out) hb); replace HL551_3 := zM (Kd.V_below (by (with_reducible repeat (first | apply Kd.V_alloc | apply Kd.V_drewN | apply Kd.V_drew)); exact HL551_3.out) hb); replace BK549 := zM (bb hb BK549.out); replace HR550_3 := zM (Kd.C_below (by repeat (first | (with_reducible exact HR550_3.out) | (with_reducible refine Kd.C_alloc ?_ _) | (with_reducible refine Kd.C_drewN ?_ _) | (with_reducible refine Kd.C_drew ?_) | exact HR550_3.out)) hb); replace HR551_3 := zM (Kd.C_below (by repeat (first | (with_reducible exact HR551_3.out) | (with_reducible refine Kd.C_alloc ?_ _) | (with_reducible refine Kd.C_drewN ?_ _) | (with_reducible refine Kd.C_drew ?_) | exact HR551_3.out)) hb); replace HB := zM (below_step (by repeat first | refine zS ?_ GE549.out | exact HB.out | apply zA | apply zN | apply zD) hb); (try clear hb); (try clear hb2); (try clear hk); (try clear hi)))
       go_ret
       exact ⟨by first | rfl | (simp [errW_none, errW_some] <;> rfl) | (simp [*, errW_none, errW_some] <;> rfl), by repeat first | refine zS ?_ GE549.out | exact HB.out | apply zA | apply zN | apply zD⟩
      ·rw [if_neg c7] at H
       have c7b0 : (((rd_T31 t545 1).f2) == 4) = false := beq_eq_false_iff_ne.mpr c7
       have c7b1 : (((rd_T31 t545 1).f2) != 4) = true := bne_iff_ne.mpr c7
       obtain rfl := Option.some.inj H
       go_enter Try.func28, Try.ntmps28
       go_wp2_with (first | ((with_reducible refine gate_callee (f := 42) rfl ?_); refine ga (some 5) rfl rfl Try.func42 (by kernel_rfl) rfl #[.agg #[.int .i64 0, .int .i64 1, .int .i64 0, .slice none 0 0], .int .i64 10, .int .i64 5, .int .i64 1, .int .i64 1, .int .i64 2] rfl ?_; (refine (tree_Split.calls k 0 1 0 (fun k_ => False) _ _ ([] : List (S31)) 10 5 1 1 2 t542 t543 t544 t545 t548 _ ?side1 A1.out).mono ?_); (case side1 => exact Kd.V_nil _ _ _ _ _); rintro e w16 ⟨v546, rfl, ho0, hb⟩; refine ⟨_, rfl, ?_⟩; have HO547 := zM (Kd.V_lower (Kd.V_mono (ok' := fun k_ => True) ho0 (fun k_ hk_ => trivial)) (below_size (by first | exact HB.out | exact zN HB.out _ | exact zD HB.out))); replace HB := zM (below_step (by first | exact HB.out | exact zN HB.out _ | exact zD HB.out) hb); (try clear hb); (try clear hb2); (try clear hk); (try clear hi); (try clear ho0)) | ((with_reducible refine gate_dst (N := 1) rfl ?_); (try (refine gate_guard (by rfl) ?_; dsimp only)); refine box_event ?hg (N := 1) ?hd (cs := #[.int .i64 0, .int .i64 0, .int .i64 0, .slice none 0 0]) (t := 31) ?hr ?_; (case hd => rfl); (case hg => rfl); (case hr => first | (go_simp; done) | (go_simp; rfl)); intro gb549 hg w17 hbox hb; have BK549 := zM (hbox); have GW549 := zM ((by rw [hg]; exact (below_size (by first | exact HB.out | exact zN HB.out _ | exact zD HB.out)) : w.heap.size ≤ gb549)); have GE549 := GW549; replace HO547 := zM (Kd.V_below (Kd.V_elderB (by (with_reducible repeat (first | apply Kd.V_alloc | apply Kd.V_drewN | apply Kd.V_drew)); exact HO547.out) gb549 (Nat.le_of_eq hg.symm)) hb); replace HB := zM (below_step (by first | exact HB.out | exact zN HB.out _ | exact zD HB.out) hb); clear hb hbox hg; obtain ⟨hcz18_0, hcz18_1, hcz18_2, hcz18_3, hfz18_0, hfz18_1, hfz18_2, hfz18_3⟩ := cz4 BK549.out; obtain ⟨Ao19, co19, eo19⟩ := Kd.V_slice HO547.out; subst eo19) | ((with_reducible refine gate_store (t := 31) (p := 1) rfl ?_); refine store_event (t := 31) (p := 1) (v := ?vo_w20) (w1 := ((((w17.setCell ⟨gb549, 0, none⟩ (.int .i64 t542)).setCell ⟨gb549, 1, none⟩ (.int .i64 t543)).setCell ⟨gb549, 2, none⟩ (.int .i64 t544)).setCell ⟨gb549, 3, none⟩ (.slice Ao19 t545.length co19))) ?hg ?ho ?hn ?hr ?_; (case ho => rfl); (case hg => rfl); (case hn => rfl); (case hr => first | (go_simp; done) | (go_simp; rfl)); intro w20 hw; have n0_ : Aside0 (Kd.V k31 31 w20 w.heap.size (fun k_ => k_ ≠ gb549) (.slice Ao19 t545.length co19) t545) := ⟨(by rw [hw]; exact (by (with_reducible repeat (first | apply Kd.V_alloc | apply Kd.V_drewN | apply Kd.V_drew)); exact Kd.V_mono (Kd.V_far (p := ⟨gb549, 3, none⟩) (Kd.V_far (p := ⟨gb549, 2, none⟩) (Kd.V_far (p := ⟨gb549, 1, none⟩) (Kd.V_far (p := ⟨gb549, 0, none⟩) (Kd.V_mono HO547.out (fun k_ hk => (⟨hk, hk.2⟩ : _ ∧ k_ ≠ gb549))) (fun _ hk => hk.2) (.int .i64 t542)) (fun _ hk => hk.2) (.int .i64 t543)) (fun _ hk => hk.2) (.int .i64 t544)) (fun _ hk => hk.2) (.slice Ao19 t545.length co19)) (fun _ hk => hk.1.2)))⟩; have n1_ : Aside0 (w20.heap[gb549]? = some (.cells #[.int .i64 t542, .int .i64 t543, .int .i64 t544, .slice Ao19 t545.length co19] 31 (0, 0))) := ⟨(by rw [hw]; exact (by exact (put4 BK549.out)))⟩; have n2_ : Aside0 (Below w.heap.size w w20) := ⟨(by rw [hw]; exact (by repeat first | refine zS ?_ GE549.out | exact HB.out | apply zA | apply zN | apply zD))⟩; clear hw; clear HO547; clear BK549; clear HB; have HO547 := n0_; have BK549 := n1_; have HB := n2_; clear n0_ n1_ n2_; obtain ⟨hcz21_0, hcz21_1, hcz21_2, hcz21_3, hfz21_0, hfz21_1, hfz21_2, hfz21_3⟩ := cz4 BK549.out; have p550 : 0 ≤ (0 : Int) := (by omega); have q550 : 0 < (t545.length : Int) := of_decide_eq_true (by first | (with_reducible assumption) | assumption); obtain ⟨ad550, A550_3, c550_3, e550, hx550_0, hx550_1, hx550_2, hx550_3, hl550_3, hi550_3⟩ := at_T31 (Kd.V_reads' HO547.out).2.2 0 p550 q550; cases e550; obtain ⟨ce550, hce550, hMe550, hcc550⟩ := Kd.V_get HO547.out z31 0 p550 (by first | exact q550 | exact of_decide_eq_true (by first | (with_reducible assumption) | assumption) | (have e_ := (Kd.V_reads' HO547.out).1; omega)); obtain ⟨ua550_3, uc550_3, rfl, ul550_3, ge550_3⟩ := k31_openF hMe550; have hv550_3 := hcc550 3 _ rfl; rw [add_field _ _ 3 (by omega)] at hv550_3; replace hv550_3 := Option.some.inj (hv550_3.symm.trans hx550_3); injection hv550_3 with hva_ hvn_ hvc_; rw [hva_] at ge550_3; rw [hvc_] at ul550_3; have HL550_3 := zM (show Kd.V k31 31 _ w.heap.size _ _ ((rd_T31 t545 0).f3) from Kd.V_mk ul550_3 ge550_3); clear hva_ hvn_ hvc_ ge550_3 ul550_3; clear hcc550 hce550; have qi550 : (0 < t545.length) = True := eq_true (by omega); (try rw [show ((0 : Int)).toNat = 0 from rfl] at hx550_0); (try rw [show 0 * 4 = 0 from rfl] at hx550_0); (try rw [Addr.add_zero'] at hx550_0); (try rw [show ((0 : Int)).toNat = 0 from rfl] at hx550_1); (try rw [show 0 * 4 = 0 from rfl] at hx550_1); (try rw [Addr.add_zero'] at hx550_1); (try rw [show ((0 : Int)).toNat = 0 from rfl] at hx550_2); (try rw [show 0 * 4 = 0 from rfl] at hx550_2); (try rw [Addr.add_zero'] at hx550_2); (try rw [show ((0 : Int)).toNat = 0 from rfl] at hx550_3); (try rw [show 0 * 4 = 0 from rfl] at hx550_3); (try rw [Addr.add_zero'] at hx550_3); have HR550_3 := zM hi550_3; have HC550_3 := zM hl550_3; clear hi550_3 hl550_3; replace p550 := eq_true p550; replace q550 := eq_true q550; have p551 : 0 ≤ (1 : Int) := (by omega); have q551 : 1 < (t545.length : Int) := of_decide_eq_true (by first | (with_reducible assumption) | assumption); obtain ⟨ad551, A551_3, c551_3, e551, hx551_0, hx551_1, hx551_2, hx551_3, hl551_3, hi551_3⟩ := at_T31 (Kd.V_reads' HO547.out).2.2 1 p551 q551; obtain rfl : ad550 = ad551 := (by injection e551); obtain ⟨ce551, hce551, hMe551, hcc551⟩ := Kd.V_get HO547.out z31 1 p551 (by first | exact q551 | exact of_decide_eq_true (by first | (with_reducible assumption) | assumption) | (have e_ := (Kd.V_reads' HO547.out).1; omega)); obtain ⟨ua551_3, uc551_3, rfl, ul551_3, ge551_3⟩ := k31_openF hMe551; have hv551_3 := hcc551 3 _ rfl; rw [add_field _ _ 3 (by omega)] at hv551_3; replace hv551_3 := Option.some.inj (hv551_3.symm.trans hx551_3); injection hv551_3 with hva_ hvn_ hvc_; rw [hva_] at ge551_3; rw [hvc_] at ul551_3; have HL551_3 := zM (show Kd.V k31 31 _ w.heap.size _ _ ((rd_T31 t545 1).f3) from Kd.V_mk ul551_3 ge551_3); clear hva_ hvn_ hvc_ ge551_3 ul551_3; clear hcc551 hce551; (try simp only [show (1 : Int).toNat = 1 from rfl, Nat.reduceMul, Nat.reduceEqDiff, Go.Addr.add, ↓reduceIte] at hx551_0); (try simp only [show (1 : Int).toNat = 1 from rfl, Nat.reduceMul, Nat.reduceEqDiff, Go.Addr.add, ↓reduceIte] at hx551_1); (try simp only [show (1 : Int).toNat = 1 from rfl, Nat.reduceMul, Nat.reduceEqDiff, Go.Addr.add, ↓reduceIte] at hx551_2); (try simp only [show (1 : Int).toNat = 1 from rfl, Nat.reduceMul, Nat.reduceEqDiff, Go.Addr.add, ↓reduceIte] at hx551_3); have qi551 : (1 < t545.length) = True := eq_true (by omega); (try rw [show ((1 : Int)).toNat = 1 from rfl] at hx551_0); (try rw [show 1 * 4 = 4 from rfl] at hx551_0); (try rw [show ((1 : Int)).toNat = 1 from rfl] at hx551_1); (try rw [show 1 * 4 = 4 from rfl] at hx551_1); (try rw [show ((1 : Int)).toNat = 1 from rfl] at hx551_2); (try rw [show 1 * 4 = 4 from rfl] at hx551_2); (try rw [show ((1 : Int)).toNat = 1 from rfl] at hx551_3); (try rw [show 1 * 4 = 4 from rfl] at hx551_3); have HR551_3 := zM hi551_3; have HC551_3 := zM hl551_3; clear hi551_3 hl551_3; replace p551 := eq_true p551; replace q551 := eq_true q551))
       go_ret
       exact ⟨by first | rfl | (simp [errW_none, errW_some] <;> rfl) | (simp [*, errW_none, errW_some] <;> rfl), by repeat first | refine zS ?_ GE549.out | exact HB.out | apply zA | apply zN | apply zD⟩
     ·rw [if_neg c6] at H
      exact absurd H (by simp)
    ·rw [if_neg c5] at H
     have c5b0 : (((rd_T31 t545 0).f2) == 5) = false := beq_eq_false_iff_ne.mpr c5
     have c5b1 : (((rd_T31 t545 0).f2) != 5) = true := bne_iff_ne.mpr c5
     obtain rfl := Option.some.inj H
     go_enter Try.func28, Try.ntmps28
     go_wp2_with (first | ((with_reducible refine gate_callee (f := 42) rfl ?_); refine ga (some 5) rfl rfl Try.func42 (by kernel_rfl) rfl #[.agg #[.int .i64 0, .int .i64 1, .int .i64 0, .slice none 0 0], .int .i64 10, .int .i64 5, .int .i64 1, .int .i64 1, .int .i64 2] rfl ?_; (refine (tree_Split.calls k 0 1 0 (fun k_ => False) _ _ ([] : List (S31)) 10 5 1 1 2 t542 t543 t544 t545 t548 _ ?side1 A1.out).mono ?_); (case side1 => exact Kd.V_nil _ _ _ _ _); rintro e w22 ⟨v546, rfl, ho0, hb⟩; refine ⟨_, rfl, ?_⟩; have HO547 := zM (Kd.V_lower (Kd.V_mono (ok' := fun k_ => True) ho0 (fun k_ hk_ => trivial)) (below_size (by first | exact HB.out | exact zN HB.out _ | exact zD HB.out))); replace HB := zM (below_step (by first | exact HB.out | exact zN HB.out _ | exact zD HB.out) hb); (try clear hb); (try clear hb2); (try clear hk); (try clear hi); (try clear ho0)) | ((with_reducible refine gate_dst (N := 1) rfl ?_); (try (refine gate_guard (by rfl) ?_; dsimp only)); refine box_event ?hg (N := 1) ?hd (cs := #[.int .i64 0, .int .i64 0, .int .i64 0, .slice none 0 0]) (t := 31) ?hr ?_; (case hd => rfl); (case hg => rfl); (case hr => first | (go_simp; done) | (go_simp; rfl)); intro gb549 hg w23 hbox hb; have BK549 := zM (hbox); have GW549 := zM ((by rw [hg]; exact (below_size (by first | exact HB.out | exact zN HB.out _ | exact zD HB.out)) : w.heap.size ≤ gb549)); have GE549 := GW549; replace HO547 := zM (Kd.V_below (Kd.V_elderB (by (with_reducible repeat (first | apply Kd.V_alloc | apply Kd.V_drewN | apply Kd.V_drew)); exact HO547.out) gb549 (Nat.le_of_eq hg.symm)) hb); replace HB := zM (below_step (by first | exact HB.out | exact zN HB.out _ | exact zD HB.out) hb); clear hb hbox hg; obtain ⟨hcz24_0, hcz24_1, hcz24_2, hcz24_3, hfz24_0, hfz24_1, hfz24_2, hfz24_3⟩ := cz4 BK549.out; obtain ⟨Ao25, co25, eo25⟩ := Kd.V_slice HO547.out; subst eo25) | ((with_reducible refine gate_store (t := 31) (p := 1) rfl ?_); refine store_event (t := 31) (p := 1) (v := ?vo_w26) (w1 := ((((w23.setCell ⟨gb549, 0, none⟩ (.int .i64 t542)).setCell ⟨gb549, 1, none⟩ (.int .i64 t543)).setCell ⟨gb549, 2, none⟩ (.int .i64 t544)).setCell ⟨gb549, 3, none⟩ (.slice Ao25 t545.length co25))) ?hg ?ho ?hn ?hr ?_; (case ho => rfl); (case hg => rfl); (case hn => rfl); (case hr => first | (go_simp; done) | (go_simp; rfl)); intro w26 hw; have n0_ : Aside0 (Kd.V k31 31 w26 w.heap.size (fun k_ => k_ ≠ gb549) (.slice Ao25 t545.length co25) t545) := ⟨(by rw [hw]; exact (by (with_reducible repeat (first | apply Kd.V_alloc | apply Kd.V_drewN | apply Kd.V_drew)); exact Kd.V_mono (Kd.V_far (p := ⟨gb549, 3, none⟩) (Kd.V_far (p := ⟨gb549, 2, none⟩) (Kd.V_far (p := ⟨gb549, 1, none⟩) (Kd.V_far (p := ⟨gb549, 0, none⟩) (Kd.V_mono HO547.out (fun k_ hk => (⟨hk, hk.2⟩ : _ ∧ k_ ≠ gb549))) (fun _ hk => hk.2) (.int .i64 t542)) (fun _ hk => hk.2) (.int .i64 t543)) (fun _ hk => hk.2) (.int .i64 t544)) (fun _ hk => hk.2) (.slice Ao25 t545.length co25)) (fun _ hk => hk.1.2)))⟩; have n1_ : Aside0 (w26.heap[gb549]? = some (.cells #[.int .i64 t542, .int .i64 t543, .int .i64 t544, .slice Ao25 t545.length co25] 31 (0, 0))) := ⟨(by rw [hw]; exact (by exact (put4 BK549.out)))⟩; have n2_ : Aside0 (Below w.heap.size w w26) := ⟨(by rw [hw]; exact (by repeat first | refine zS ?_ GE549.out | exact HB.out | apply zA | apply zN | apply zD))⟩; clear hw; clear HO547; clear BK549; clear HB; have HO547 := n0_; have BK549 := n1_; have HB := n2_; clear n0_ n1_ n2_; obtain ⟨hcz27_0, hcz27_1, hcz27_2, hcz27_3, hfz27_0, hfz27_1, hfz27_2, hfz27_3⟩ := cz4 BK549.out; have p550 : 0 ≤ (0 : Int) := (by omega); have q550 : 0 < (t545.length : Int) := of_decide_eq_true (by first | (with_reducible assumption) | assumption); obtain ⟨ad550, A550_3, c550_3, e550, hx550_0, hx550_1, hx550_2, hx550_3, hl550_3, hi550_3⟩ := at_T31 (Kd.V_reads' HO547.out).2.2 0 p550 q550; cases e550; obtain ⟨ce550, hce550, hMe550, hcc550⟩ := Kd.V_get HO547.out z31 0 p550 (by first | exact q550 | exact of_decide_eq_true (by first | (with_reducible assumption) | assumption) | (have e_ := (Kd.V_reads' HO547.out).1; omega)); obtain ⟨ua550_3, uc550_3, rfl, ul550_3, ge550_3⟩ := k31_openF hMe550; have hv550_3 := hcc550 3 _ rfl; rw [add_field _ _ 3 (by omega)] at hv550_3; replace hv550_3 := Option.some.inj (hv550_3.symm.trans hx550_3); injection hv550_3 with hva_ hvn_ hvc_; rw [hva_] at ge550_3; rw [hvc_] at ul550_3; have HL550_3 := zM (show Kd.V k31 31 _ w.heap.size _ _ ((rd_T31 t545 0).f3) from Kd.V_mk ul550_3 ge550_3); clear hva_ hvn_ hvc_ ge550_3 ul550_3; clear hcc550 hce550; have qi550 : (0 < t545.length) = True := eq_true (by omega); (try rw [show ((0 : Int)).toNat = 0 from rfl] at hx550_0); (try rw [show 0 * 4 = 0 from rfl] at hx550_0); (try rw [Addr.add_zero'] at hx550_0); (try rw [show ((0 : Int)).toNat = 0 from rfl] at hx550_1); (try rw [show 0 * 4 = 0 from rfl] at hx550_1); (try rw [Addr.add_zero'] at hx550_1); (try rw [show ((0 : Int)).toNat = 0 from rfl] at hx550_2); (try rw [show 0 * 4 = 0 from rfl] at hx550_2); (try rw [Addr.add_zero'] at hx550_2); (try rw [show ((0 : Int)).toNat = 0 from rfl] at hx550_3); (try rw [show 0 * 4 = 0 from rfl] at hx550_3); (try rw [Addr.add_zero'] at hx550_3); have HR550_3 := zM hi550_3; have HC550_3 := zM hl550_3; clear hi550_3 hl550_3; replace p550 := eq_true p550; replace q550 := eq_true q550))
     go_ret
     exact ⟨by first | rfl | (simp [errW_none, errW_some] <;> rfl) | (simp [*, errW_none, errW_some] <;> rfl), by repeat first | refine zS ?_ GE549.out | exact HB.out | apply zA | apply zN | apply zD⟩
   ·rw [if_neg c4] at H
    exact absurd H (by simp)
  ·rw [if_neg c3] at H
   have c3b0 : ((t545.length : Int) == 2) = false := beq_eq_false_iff_ne.mpr c3
   have c3b1 : ((t545.length : Int) != 2) = true := bne_iff_ne.mpr c3
   obtain rfl := Option.some.inj H
   go_enter Try.func28, Try.ntmps28
   go_wp2_with (first | ((with_reducible refine gate_callee (f := 42) rfl ?_); refine ga (some 5) rfl rfl Try.func42 (by kernel_rfl) rfl #[.agg #[.int .i64 0, .int .i64 1, .int .i64 0, .slice none 0 0], .int .i64 10, .int .i64 5, .int .i64 1, .int .i64 1, .int .i64 2] rfl ?_; (refine (tree_Split.calls k 0 1 0 (fun k_ => False) _ _ ([] : List (S31)) 10 5 1 1 2 t542 t543 t544 t545 t548 _ ?side1 A1.out).mono ?_); (case side1 => exact Kd.V_nil _ _ _ _ _); rintro e w28 ⟨v546, rfl, ho0, hb⟩; refine ⟨_, rfl, ?_⟩; have HO547 := zM (Kd.V_lower (Kd.V_mono (ok' := fun k_ => True) ho0 (fun k_ hk_ => trivial)) (below_size (by first | exact HB.out | exact zN HB.out _ | exact zD HB.out))); replace HB := zM (below_step (by first | exact HB.out | exact zN HB.out _ | exact zD HB.out) hb); (try clear hb); (try clear hb2); (try clear hk); (try clear hi); (try clear ho0)) | ((with_reducible refine gate_dst (N := 1) rfl ?_); (try (refine gate_guard (by rfl) ?_; dsimp only)); refine box_event ?hg (N := 1) ?hd (cs := #[.int .i64 0, .int .i64 0, .int .i64 0, .slice none 0 0]) (t := 31) ?hr ?_; (case hd => rfl); (case hg => rfl); (case hr => first | (go_simp; done) | (go_simp; rfl)); intro gb549 hg w29 hbox hb; have BK549 := zM (hbox); have GW549 := zM ((by rw [hg]; exact (below_size (by first | exact HB.out | exact zN HB.out _ | exact zD HB.out)) : w.heap.size ≤ gb549)); have GE549 := GW549; replace HO547 := zM (Kd.V_below (Kd.V_elderB (by (with_reducible repeat (first | apply Kd.V_alloc | apply Kd.V_drewN | apply Kd.V_drew)); exact HO547.out) gb549 (Nat.le_of_eq hg.symm)) hb); replace HB := zM (below_step (by first | exact HB.out | exact zN HB.out _ | exact zD HB.out) hb); clear hb hbox hg; obtain ⟨hcz30_0, hcz30_1, hcz30_2, hcz30_3, hfz30_0, hfz30_1, hfz30_2, hfz30_3⟩ := cz4 BK549.out; obtain ⟨Ao31, co31, eo31⟩ := Kd.V_slice HO547.out; subst eo31))
   go_ret
   exact ⟨by first | rfl | (simp [errW_none, errW_some] <;> rfl) | (simp [*, errW_none, errW_some] <;> rfl), by repeat first | refine zS ?_ GE549.out | exact HB.out | apply zA | apply zN | apply zD⟩
 ·rw [if_neg c2] at H
  have c2b0 : (t548 == 0) = false := beq_eq_false_iff_ne.mpr c2
  have c2b1 : (t548 != 0) = true := bne_iff_ne.mpr c2
  obtain rfl := Option.some.inj H
  go_enter Try.func28, Try.ntmps28
  go_wp2_with (first | ((with_reducible refine gate_callee (f := 42) rfl ?_); refine ga (some 5) rfl rfl Try.func42 (by kernel_rfl) rfl #[.agg #[.int .i64 0, .int .i64 1, .int .i64 0, .slice none 0 0], .int .i64 10, .int .i64 5, .int .i64 1, .int .i64 1, .int .i64 2] rfl ?_; (refine (tree_Split.calls k 0 1 0 (fun k_ => False) _ _ ([] : List (S31)) 10 5 1 1 2 t542 t543 t544 t545 t548 _ ?side1 A1.out).mono ?_); (case side1 => exact Kd.V_nil _ _ _ _ _); rintro e w32 ⟨v546, rfl, ho0, hb⟩; refine ⟨_, rfl, ?_⟩; have HO547 := zM (Kd.V_lower (Kd.V_mono (ok' := fun k_ => True) ho0 (fun k_ hk_ => trivial)) (below_size (by first | exact HB.out | exact zN HB.out _ | exact zD HB.out))); replace HB := zM (below_step (by first | exact HB.out | exact zN HB.out _ | exact zD HB.out) hb); (try clear hb); (try clear hb2); (try clear hk); (try clear hi); (try clear ho0)) | ((with_reducible refine gate_dst (N := 1) rfl ?_); (try (refine gate_guard (by rfl) ?_; dsimp only)); refine box_event ?hg (N := 1) ?hd (cs := #[.int .i64 0, .int .i64 0, .int .i64 0, .slice none 0 0]) (t := 31) ?hr ?_; (case hd => rfl); (case hg => rfl); (case hr => first | (go_simp; done) | (go_simp; rfl)); intro gb549 hg w33 hbox hb; have BK549 := zM (hbox); have GW549 := zM ((by rw [hg]; exact (below_size (by first | exact HB.out | exact zN HB.out _ | exact zD HB.out)) : w.heap.size ≤ gb549)); have GE549 := GW549; replace HO547 := zM (Kd.V_below (Kd.V_elderB (by (with_reducible repeat (first | apply Kd.V_alloc | apply Kd.V_drewN | apply Kd.V_drew)); exact HO547.out) gb549 (Nat.le_of_eq hg.symm)) hb); replace HB := zM (below_step (by first | exact HB.out | exact zN HB.out _ | exact zD HB.out) hb); clear hb hbox hg; obtain ⟨hcz34_0, hcz34_1, hcz34_2, hcz34_3, hfz34_0, hfz34_1, hfz34_2, hfz34_3⟩ := cz4 BK549.out; obtain ⟨Ao35, co35, eo35⟩ := Kd.V_slice HO547.out; subst eo35))
  go_ret
  exact ⟨by first | rfl | (simp [errW_none, errW_some] <;> rfl) | (simp [*, errW_none, errW_some] <;> rfl), by repeat first | refine zS ?_ GE549.out | exact HB.out | apply zA | apply zN | apply zD⟩
end Go.Proofs.Ytplngfammfdemaa.Q
end
section
namespace Go.Proofs.Ytplngfammfdemaa
open Go.RowKit Go.Proofs.YtplngfammfdemaaW.PrintWords Go.Proofs.YtplngfammfdemaaW.PrintMore Q
set_option linter.unusedVariables false
set_option linter.unusedSimpArgs false
theorem Few_mono : ∀ {d d' : Nat} {t : S31}, Few d t → d ≤ d' → Few d' t := by
  intro d
  induction d with
  | zero => intro d' t h; exact h.elim
  | succ d ih =>
    intro d' t h hd
    obtain ⟨d', rfl⟩ : ∃ m, d' = m + 1 := ⟨d' - 1, by omega⟩
    exact ⟨h.1, fun x hx => ih (h.2 x hx) (by omega)⟩
theorem few_all : ∀ l : List S31, (∀ x ∈ l, ∃ d, Few d x) → ∃ d, ∀ x ∈ l, Few d x := by
  intro l
  induction l with
  | nil => intro _; exact ⟨0, fun x hx => (by simp at hx)⟩
  | cons t l ih =>
    intro h
    obtain ⟨a, ha⟩ := h t List.mem_cons_self
    obtain ⟨b, hb⟩ := ih (fun x hx => h x (List.mem_cons_of_mem _ hx))
    refine ⟨max a b, fun x hx => ?_⟩
    rcases List.mem_cons.1 hx with rfl | hx
    · exact Few_mono ha (Nat.le_max_left _ _)
    · exact Few_mono (hb x hx) (Nat.le_max_right _ _)
theorem count_ends : ∀ (n : Nat) (t : S31), SizeOf.sizeOf t ≤ n → ∀ m : Int, 0 ≤ m → m ≤ 60 → ∃ K r, (∀ k, K ≤ k → backseatref11_Count.f k t.f0 t.f1 t.f2 t.f3 m = some r) ∧ 1 ≤ r ∧ r ≤ m + 1 ∧ (r ≤ m → ∃ d, Few d t) := by
  intro n
  induction n with
  | zero => intro t ht; cases t; simp at ht
  | succ n ih =>
    intro t ht m hm0 hm
    have hkid : ∀ x ∈ t.f3, SizeOf.sizeOf x ≤ n := by
      intro x hx
      have h1 := List.sizeOf_lt_of_mem hx
      obtain ⟨a, b, c, l⟩ := t
      simp only [S31.mk.sizeOf_spec] at ht
      simp only at h1
      omega
    have loop : ∀ d i, i + d = t.f3.length → ∀ c : Int, 1 + (i : Int) ≤ c → c ≤ m + 1 → ∃ K r, (∀ k, K ≤ k → backseatref11_Count.l0 k m c t.f3 (t.f3.length : Int) (i : Int) = some r) ∧ 1 ≤ r ∧ r ≤ m + 1 ∧ (r ≤ m → c + d ≤ r ∧ ∀ x ∈ t.f3.drop i, ∃ d, Few d x) := by
      intro d
      induction d with
      | zero =>
        intro i hi c hc0 hc1
        refine ⟨1, c, fun k hk => ?_, by omega, by omega, fun _ => ⟨by omega, fun x hx => ?_⟩⟩
        · obtain ⟨k, rfl⟩ : ∃ m, k = m + 1 := ⟨k - 1, by omega⟩
          simp only [backseatref11_Count.l0]
          rw [if_neg (by omega)]
        · rw [List.drop_eq_nil_of_le (by omega)] at hx; simp at hx
      | succ d ihd =>
        intro i hi c hc0 hc1
        by_cases hcm : c > m
        · refine ⟨1, c, fun k hk => ?_, by omega, by omega, fun h => by omega⟩
          obtain ⟨k, rfl⟩ : ∃ m, k = m + 1 := ⟨k - 1, by omega⟩
          simp only [backseatref11_Count.l0]
          rw [if_pos (by omega), if_pos (by omega), if_pos (by omega), if_pos hcm]
        · obtain ⟨K1, r1, e1, a1, a2, a3⟩ := ih _ (hkid _ (rd31_mem t.f3 i (by omega))) (m - c) (by omega) (by omega)
          obtain ⟨K2, r2, e2, b1, b2, b3⟩ := ihd (i + 1) (by omega) (c + r1) (by omega) (by omega)
          refine ⟨K1 + K2 + 1, r2, fun k hk => ?_, b1, b2, fun h => ⟨by have := (b3 h).1; omega, fun x hx => ?_⟩⟩
          · obtain ⟨k, rfl⟩ : ∃ m, k = m + 1 := ⟨k - 1, by omega⟩
            simp only [backseatref11_Count.l0]
            rw [if_pos (by omega), if_pos (by omega), if_pos (by omega), if_neg hcm, wrap_i (i := m - c) (by omega) (by omega), e1 k (by omega)]
            simp only [Option.bind_some]
            rw [wrap_i (i := c + r1) (by omega) (by omega), wrap_i (i := (i : Int) + 1) (by omega) (by omega), show ((i : Int) + 1) = ((i + 1 : Nat) : Int) by omega]
            exact e2 k (by omega)
          · rw [rd31_drop t.f3 i (by omega)] at hx
            rcases List.mem_cons.1 hx with rfl | hx
            · exact a3 (by have := (b3 h).1; omega)
            · exact (b3 h).2 x hx
    by_cases hm1 : 1 ≤ m + 1
    · obtain ⟨K, r, e, a1, a2, a3⟩ := loop t.f3.length 0 (by omega) 1 (by omega) hm1
      refine ⟨K + 1, r, fun k hk => ?_, a1, a2, fun h => ?_⟩
      · obtain ⟨k, rfl⟩ : ∃ m, k = m + 1 := ⟨k - 1, by omega⟩
        simp only [backseatref11_Count.f]
        exact e k (by omega)
      · obtain ⟨b1, b2⟩ := a3 h
        rw [List.drop_zero] at b2
        obtain ⟨d, hd⟩ := few_all t.f3 b2
        exact ⟨d + 1, by omega, hd⟩
    · omega
theorem same_mk : ∀ (d : Nat) (t : S31) (w h : Int), Mk d t w h → 1 ≤ w → w ≤ 80 → 1 ≤ h → h ≤ 80 → ∀ k, 50 * d ≤ k → backseatref11_Same.f k t.f0 t.f1 t.f2 t.f3 t.f0 t.f1 t.f2 t.f3 = some true := by
  intro d
  induction d with
  | zero => intro t w h hm; exact hm.elim
  | succ d ih =>
    intro t w h hm w1 w8 h1 h8 k hk
    obtain ⟨k, rfl⟩ : ∃ m, k = m + 2 := ⟨k - 2, by omega⟩
    have hlen := mk_kids hm w8 h8
    have hkid : ∀ x ∈ t.f3, ∀ k, 50 * d ≤ k → backseatref11_Same.f k x.f0 x.f1 x.f2 x.f3 x.f0 x.f1 x.f2 x.f3 = some true := by
      intro x hx
      by_cases h0 : t.f0 = 0
      · rcases hm with hm | hm
        · rw [hm.2.1] at hx; cases hx
        · omega
      · obtain ⟨_, _, _, hkk, _⟩ := hm.kids h0
        obtain ⟨_, b, c, e⟩ := hkk x hx
        obtain ⟨p, q, r, s⟩ := kid_box (kind := t.f0) b c w1 w8 h1 h8
        exact ih x _ _ e p q r s
    have loop : ∀ m i, i + m = t.f3.length → ∀ k, 50 * d + m + 1 ≤ k → backseatref11_Same.l0 k (t.f3.length : Int) (i : Int) t.f0 t.f1 t.f2 t.f3 t.f0 t.f1 t.f2 t.f3 = some true := by
      intro m
      induction m with
      | zero =>
        intro i hi k hk
        obtain ⟨k, rfl⟩ : ∃ m, k = m + 1 := ⟨k - 1, by omega⟩
        simp only [backseatref11_Same.l0]
        rw [if_neg (by omega)]
      | succ m ihm =>
        intro i hi k hk
        obtain ⟨k, rfl⟩ : ∃ m, k = m + 1 := ⟨k - 1, by omega⟩
        simp only [backseatref11_Same.l0]
        rw [if_pos (by omega), if_pos (by omega), if_pos (by omega), if_pos (by omega), if_pos trivial]
        have hx : rd_T31 t.f3 (i : Int) ∈ t.f3 := by rw [rd31_at t.f3 i (by omega)]; exact List.getElem_mem _
        rw [hkid _ hx k (by omega), Option.bind_some, if_pos rfl, wrap_i (by omega) (by omega), show ((i : Int) + 1) = ((i + 1 : Nat) : Int) by omega]
        exact ihm (i + 1) (by omega) k (by omega)
    simp only [backseatref11_Same.f]
    rw [if_pos trivial, if_pos trivial]
    simp only [backseatref11_Same.j0]
    rw [show ((t.f3.length : Int) != (t.f3.length : Int)) = false by simp, if_neg (by decide)]
    exact loop t.f3.length 0 (by omega) k (by omega)
theorem same_self {t : S31} {w h : Int} (hr : RightT t w h) : ∀ k, 400 ≤ k → backseatref11_Same.f k t.f0 t.f1 t.f2 t.f3 t.f0 t.f1 t.f2 t.f3 = some true := fun k hk =>
  same_mk _ t w h hr.ok hr.w1 hr.w8 hr.h1 (by have := hr.h5; omega) k (by have := hr.few; omega)
theorem alive11 : ∀ k, 30 ≤ k → backseatlaw11_alive.f k = some true := by
  have h : backseatlaw11_alive.f 30 = some true := by decide +kernel
  exact mono_ge (fun k => backseatlaw11_alive.mono k) h
end Go.Proofs.Ytplngfammfdemaa
end
