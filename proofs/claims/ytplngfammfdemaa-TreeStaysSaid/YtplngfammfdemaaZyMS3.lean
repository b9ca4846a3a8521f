-- Copies of the texts YtplngfammfdemaaUCount, YtplngfammfdemaaMS3 with what this claim does not reach left out (prune.py, a program of this project).
import Derived.Test.YtplngfammfdemaaZyMF0
import Derived.Test.YtplngfammfdemaaZyMS0
section
namespace Go.Proofs.Ytplngfammfdemaa
open Go.RowKit Go.Shelf Go.Proofs.YtplngfammfdemaaW.PrintWords Go.Proofs.YtplngfammfdemaaW.PrintLast Go.Proofs.YtplngfammfdemaaW.PrintMore Q
attribute [local go_sem] Oper.semAt_some
set_option linter.unusedVariables false
set_option linter.unusedSimpArgs false
structure CntAt (w : World) (B1 : Nat) (n : Int) (W : World) : Prop where
  res : W.heap[B1]? = some (.cells #[.int .i64 n] 3 (0, 0))
  below : Below w.heap.size w W
set_option maxRecDepth 100000 in
set_option maxHeartbeats 4000000 in
theorem count_loop (w : World) (t : S31) (A0 : Option Addr) (c0 : Nat) (k : Nat) (hC : Kd.C k31 w A0 t.f3.length t.f3) (ps : List Int) (hp : panesK k t = some ps) (hlen : ps.length ≤ 1000000) :
    CallsIn Fence.wide 5 Try.prog 75 #[treeV t A0 c0] w fun e w' => e = .returned (.int .i64 (ps.length : Int)) ∧ Below w.heap.size w w' := by
  have hu31 := Try.underlying31
  have HC := Aside0.mk hC
  have HP := Aside0.mk hp
  clear hC hp
  unfold treeV
  refine callsIn_of_wp_marks Try.func75 rfl trivial ?_ rfl
  simp only [Try.ntmps75, List.size_toArray, List.length_cons, List.length_nil, Nat.reduceAdd, Nat.reduceSub, Array.replicate_succ, Array.replicate_zero, List.push_toArray, List.append_toArray, List.nil_append, List.cons_append]
  gi_wp2
  refine ⟨trivial, ?_⟩
  refine (callsIn_wide.2 (panes_any t A0 c0 _)).mono ?_
  rintro e W3 ⟨rfl, rfl⟩
  obtain ⟨W4, hW4⟩ : ∃ W4, (((w.alloc (.cells #[.int .i64 t.f0, .int .i64 t.f1, .int .i64 t.f2, .slice A0 t.f3.length c0] 31)).alloc (.cells #[.int .i64 0] 3)).alloc (.cells (treeC t A0 c0) 31)) = W4 := ⟨_, rfl⟩
  gi_wp2
  have hsz3 : ((w.alloc (.cells #[.int .i64 t.f0, .int .i64 t.f1, .int .i64 t.f2, .slice A0 t.f3.length c0] 31)).alloc (.cells #[.int .i64 0] 3)).heap.size = w.heap.size + 1 + 1 := by simp
  have hT4 : W4.heap[w.heap.size + 1 + 1]? = some (.cells (treeC t A0 c0) 31 (0, 0)) := by
    rw [← hW4]; have := blk_new ((w.alloc (.cells #[.int .i64 t.f0, .int .i64 t.f1, .int .i64 t.f2, .slice A0 t.f3.length c0] 31)).alloc (.cells #[.int .i64 0] 3)) (.cells (treeC t A0 c0) 31); rwa [hsz3] at this
  have hR4 : W4.heap[w.heap.size + 1]? = some (.cells #[.int .i64 0] 3 (0, 0)) := by
    rw [← hW4]; have := blk_new (w.alloc (.cells #[.int .i64 t.f0, .int .i64 t.f1, .int .i64 t.f2, .slice A0 t.f3.length c0] 31)) (.cells #[.int .i64 0] 3); rw [World.size_alloc] at this; exact blk_alloc this _
  have hB4 : Below w.heap.size w W4 := by rw [← hW4]; exact below_alloc (below_alloc (below_alloc (Below.refl _ w) _) _) _
  have h0 : CntAt w (w.heap.size + 1) (wrap64 (([] : List Int).length : Int)) W4 := ⟨by rw [show wrap64 (([] : List Int).length : Int) = 0 by simp [wrap64]]; exact hR4, hB4⟩
  have hle4 : w.heap.size ≤ W4.heap.size := hB4.size
  have hseq := panes_stops k (w.heap.size + 1 + 1) t A0 c0 ps w W4 hB4 HP.out hT4 HC.out
  have HSQ := Aside0.mk hseq
  clear hW4 hT4 hR4 hB4 hseq
  refine wpIn_rangeFunc_ownH rfl (by omega) (gf := 97) (lb := #[.pointer (some ⟨w.heap.size + 1 + 1, 0, none⟩)]) rfl trivial (enters_of Try.func97 (by kernel_rfl) rfl) HSQ.out belowK_t (belowK_b hle4) (Below.refl _ _) (fun _ => rfl)
    (fun pre W => CntAt w (w.heap.size + 1) (wrap64 (pre.length : Int)) W)
    (fun c pre W => False)
    ?own
    ?own2
    h0
    (fun x a' W => a' = { tmps := #[Value.agg #[.int .i64 t.f0, .int .i64 t.f1, .int .i64 t.f2, .slice A0 t.f3.length c0], .pointer (some ⟨w.heap.size, 0, none⟩), .int .i64 0, .pointer (some ⟨w.heap.size + 1, 0, none⟩), .agg #[.int .i64 t.f0, .int .i64 t.f1, .int .i64 t.f2, .slice A0 t.f3.length c0], .func (.func 97) #[] #[.pointer (some ⟨w.heap.size + 1 + 1, 0, none⟩)], .int .i64 x, undef, undef, undef], defers := [] })
    ?ownx ?assign ?body ?done ?stop
  case own =>
    intro s A B row hs hg hr
    obtain ⟨hres, hB⟩ := hs
    refine ⟨?_, ownFrom_below (Nat.le_refl _) hle4 s A B row hB hg hr⟩
    exact (hg.block _ (blk_lt hres) (fun e => by obtain ⟨_, o, h1, h2⟩ := hr _ e.symm; rw [hres] at h1; cases h1; cases h2)).trans hres
  case own2 =>
    intro c s A B row hs hg hr
    exact hs.elim
  case ownx =>
    rintro x a' s A B row h5 hg hr
    exact h5
  case assign =>
    rintro l pre x W K hI hK
    gi_wp2
    exact hK _ _ (KeepsFrom.refl _ _) (Below.refl _ _) hI (by first | rfl | simp)
  case body =>
    rintro l pre x a' W hl ⟨r, hr⟩ ⟨hres, hB⟩ rfl hlt
    have u0 := blk_frozen hres 0
    have r0 : W.cell? ⟨w.heap.size + 1, 0, none⟩ = some (.int .i64 (wrap64 (pre.length : Int))) := (blk_cell hres 0).trans rfl
    have hw : wrap64 (wrap64 (pre.length : Int) + 1) = wrap64 ((pre ++ [x]).length : Int) := by rw [List.length_append, List.length_singleton]; unfold wrap64; omega
    have HRes := Aside0.mk hres
    have HB := Aside0.mk hB
    have HW := Aside0.mk hw
    clear hres hB hr hlt hw
    gi_wp2
    refine ⟨(KeepsOthers.setCell _ _ _).from _, (Below.refl w.heap.size W).setCell (p := ⟨w.heap.size + 1, 0, none⟩) (by show w.heap.size ≤ w.heap.size + 1; omega) _, ?_, ?_⟩
    · rw [← HW.out]; exact blk_put HRes.out 0 _ rfl
    · exact HB.out.setCell (p := ⟨w.heap.size + 1, 0, none⟩) (by show w.heap.size ≤ w.heap.size + 1; omega) _
  case done =>
    rintro D ys W hD rfl ⟨hres, hB⟩ hK
    have r0 : W.cell? ⟨w.heap.size + 1, 0, none⟩ = some (.int .i64 (ys.length : Int)) := (blk_cell hres 0).trans (by rw [show wrap64 (ys.length : Int) = (ys.length : Int) by unfold wrap64; omega]; rfl)
    have HB := Aside0.mk hB
    clear hres hB
    gi_wp2
    refine ⟨by simp, .inl ⟨_, _, rfl, run_takeDeferred hK, ?_⟩⟩
    refine ⟨.int .i64 (ys.length : Int), by simp [results, Try.results75, go_sem], rfl, HB.out.trans (belowK_b (w := w) (Nat.le_refl _) _ D _ _ (by omega) hK rfl rfl)⟩
  case stop =>
    rintro D c pre W hD hpre h hK
    exact h.elim
theorem count_any (w : World) (t : S31) (A0 : Option Addr) (c0 : Nat) (k : Nat) (hC : Kd.C k31 w A0 t.f3.length t.f3) (ps : List Int) (hp : panesK k t = some ps) (hlen : ps.length ≤ 1000000) :
    Calls Try.prog 75 #[treeV t A0 c0] w fun e w' => e = .returned (.int .i64 (ps.length : Int)) ∧ Below w.heap.size w w' :=
  callsIn_wide.1 (count_loop w t A0 c0 k hC ps hp hlen)
end Go.Proofs.Ytplngfammfdemaa
end
section
namespace Go.Proofs.Ytplngfammfdemaa
open Q
set_option linter.unusedVariables false
set_option linter.unusedSimpArgs false
/-- Made right, as a test. -/
def mkB : Nat → S31 → Int → Int → Bool
  | 0, _, _, _ => false
  | d + 1, t, w, h => (decide (t.f0 = 0 ∧ 1 ≤ t.f1 ∧ t.f1 ≤ 999) && t.f3.isEmpty) ||
      (decide ((t.f0 = 1 ∨ t.f0 = 2) ∧ t.f1 = 0 ∧ 2 ≤ t.f3.length) && (t.f3.all (fun x => decide (x.f0 ≠ t.f0 ∧ 1 ≤ x.f2 ∧ x.f2 ≤ 80) && mkB d x (kwd t.f0 x.f2 w) (khd t.f0 x.f2 h)) && decide (sumF t.f3 + t.f3.length - 1 = alo t.f0 w h)))
theorem mkB_iff : ∀ (d : Nat) (t : S31) (w h : Int), mkB d t w h = true ↔ Mk d t w h := by
  intro d
  induction d with
  | zero => intro t w h; simp [mkB, Mk]
  | succ d ih =>
    intro t w h
    unfold mkB Mk
    simp only [Bool.or_eq_true, Bool.and_eq_true, decide_eq_true_eq, List.isEmpty_iff, List.all_eq_true, ih]
    constructor
    · rintro (⟨⟨a, b, c⟩, e⟩ | ⟨⟨a, b, c⟩, e, f⟩)
      · exact .inl ⟨a, e, b, c⟩
      · exact .inr ⟨a, b, c, fun x hx => ⟨(e x hx).1.1, (e x hx).1.2.1, (e x hx).1.2.2, (e x hx).2⟩, f⟩
    · rintro (⟨a, e, b, c⟩ | ⟨a, b, c, e, f⟩)
      · exact .inl ⟨⟨a, b, c⟩, e⟩
      · exact .inr ⟨⟨a, b, c⟩, fun x hx => ⟨⟨(e x hx).1, (e x hx).2.1, (e x hx).2.2.1⟩, (e x hx).2.2.2⟩, f⟩
def rightB (t : S31) (w h : Int) : Bool := mkB 8 t w h && decide ((psA t).Nodup ∧ (psA t).length ≤ 8 ∧ 1 ≤ w ∧ w ≤ 80 ∧ 1 ≤ h ∧ h ≤ 50)
theorem rightB_iff {t : S31} {w h : Int} : rightB t w h = true ↔ RightT t w h := by
  unfold rightB
  rw [Bool.and_eq_true, mkB_iff, decide_eq_true_eq]
  constructor
  · rintro ⟨a, b, c, d, e, f, g⟩
    exact right_of a (by omega) b c d e f g
  · intro hr
    exact ⟨hr.ok.mono hr.few, hr.nd, hr.few, hr.w1, hr.w8, hr.h1, hr.h5⟩
/-- Sixteen rounds are enough for any tree that may be. -/
def R0 : Nat := 16
def fiveZ (e : Int) : Int × Int × Int × List S31 × Int := (0, 0, 0, [], e)
def fiveT (t : S31) : Int × Int × Int × List S31 × Int := (t.f0, t.f1, t.f2, t.f3, 0)
def tree_Kill.f (k : Nat) (a0 a1 a2 : Int) (l : List S31) (w h pane : Int) : Option (Int × Int × Int × List S31 × Int) :=
  if rightB ⟨a0, a1, a2, l⟩ w h = true then some (if pane ∈ psA ⟨a0, a1, a2, l⟩ then (if (psA ⟨a0, a1, a2, l⟩).length = 1 then fiveZ 8 else fiveT (killR R0 ⟨a0, a1, a2, l⟩ w h pane)) else fiveZ 5) else none
def tree_Fit.f (k : Nat) (a0 a1 a2 : Int) (l : List S31) (w h w2 h2 : Int) : Option (Int × Int × Int × List S31 × Int) :=
  if rightB ⟨a0, a1, a2, l⟩ w h = true then some (if 1 ≤ w2 ∧ w2 ≤ 80 ∧ 1 ≤ h2 ∧ h2 ≤ 50 then (if leastR R0 ⟨a0, a1, a2, l⟩ 1 ≤ w2 ∧ leastR R0 ⟨a0, a1, a2, l⟩ 2 ≤ h2 then fiveT (fitR R0 ⟨a0, a1, a2, l⟩ w2 h2) else fiveZ 9) else fiveZ 1) else none
def tree_Turn.f (k : Nat) (a0 a1 a2 : Int) (l : List S31) (w h : Int) (back : Bool) : Option (Int × Int × Int × List S31 × Int) :=
  if rightB ⟨a0, a1, a2, l⟩ w h = true then some (fiveT (namedR R0 ⟨a0, a1, a2, l⟩ (turnL back (psA ⟨a0, a1, a2, l⟩))).1) else none
def tree_Swap.f (k : Nat) (a0 a1 a2 : Int) (l : List S31) (w h a b : Int) : Option (Int × Int × Int × List S31 × Int) :=
  if rightB ⟨a0, a1, a2, l⟩ w h = true then some (if a ∈ psA ⟨a0, a1, a2, l⟩ ∧ b ∈ psA ⟨a0, a1, a2, l⟩ then fiveT (namedR R0 ⟨a0, a1, a2, l⟩ (swapL (psA ⟨a0, a1, a2, l⟩) a b)).1 else fiveZ 5) else none
def splitG (t : S31) (w h pane kind fresh : Int) : Int × Int × Int × List S31 × Int :=
  if (kind = 1 ∨ kind = 2) ∧ 1 ≤ fresh ∧ fresh ≤ 999 then (if pane ∈ psA t then (if fresh ∈ psA t then fiveZ 6 else (if (psA t).length = 8 then fiveZ 7 else (if cellsR R0 t w h pane kind < 3 then fiveZ 9 else fiveT (splitR R0 t pane kind fresh (cellsR R0 t w h pane kind))))) else fiveZ 5) else fiveZ 1
def tree_Split.f (k : Nat) (a0 a1 a2 : Int) (l : List S31) (w h pane kind fresh : Int) : Option (Int × Int × Int × List S31 × Int) :=
  if rightB ⟨a0, a1, a2, l⟩ w h = true then some (splitG ⟨a0, a1, a2, l⟩ w h pane kind fresh) else none
section
variable {t : S31} {w h : Int}
theorem kill_stays (hr : RightT t w h) {pane : Int} (hp : pane ∈ psA t) (h1 : (psA t).length ≠ 1) : RightT (killR R0 t w h pane) w h := by
  have : 1 ≤ (psA t).length := List.length_pos_of_mem hp
  exact (kill_right hr hp (by omega) R0 (by decide)).1
theorem fit_stays (hr : RightT t w h) {w2 h2 : Int} (hb : 1 ≤ w2 ∧ w2 ≤ 80 ∧ 1 ≤ h2 ∧ h2 ≤ 50) (hl : leastR R0 t 1 ≤ w2 ∧ leastR R0 t 2 ≤ h2) : RightT (fitR R0 t w2 h2) w2 h2 :=
  (fit_right hr hb.1 hb.2.1 hb.2.2.1 hb.2.2.2 R0 (by decide) hl.1 hl.2).1
theorem turn_right (hr : RightT t w h) (back : Bool) : RightT (namedR R0 t (turnL back (psA t))).1 w h ∧ psA (namedR R0 t (turnL back (psA t))).1 = turnL back (psA t) :=
  named_right hr _ (turn_len _ _) (turn_nodup _ _ hr.nd) (fun q hq => turn_mem _ _ q hq) R0 (by decide)
theorem turn_back_same (hr : RightT t w h) : (namedR R0 (namedR R0 t (turnL false (psA t))).1 (turnL true (psA (namedR R0 t (turnL false (psA t))).1))).1 = t := by
  rw [(turn_right hr false).2, turn_back, named_twice]
  exact named_same hr R0 (by decide)
theorem swap_right (hr : RightT t w h) {a b : Int} (ha : a ∈ psA t) (hb : b ∈ psA t) (hab : a ≠ b) : RightT (namedR R0 t (swapL (psA t) a b)).1 w h ∧ psA (namedR R0 t (swapL (psA t) a b)).1 = swapL (psA t) a b := by
  refine named_right hr _ ?_ ?_ ?_ R0 (by decide)
  · unfold swapL; simp
  · rw [swapL_map _ a b hr.nd ha hb hab]; exact nodup_swp _ a b hab hr.nd
  · intro q hq; rw [swapL_map _ a b hr.nd ha hb hab] at hq; exact mem_swp _ a b q ha hb hq
theorem swap_back_same (hr : RightT t w h) {a b : Int} (ha : a ∈ psA t) (hb : b ∈ psA t) (hab : a ≠ b) : (namedR R0 (namedR R0 t (swapL (psA t) a b)).1 (swapL (psA (namedR R0 t (swapL (psA t) a b)).1) b a)).1 = t := by
  rw [(swap_right hr ha hb hab).2, swapL_back _ a b hr.nd ha hb hab, named_twice]
  exact named_same hr R0 (by decide)
theorem insP_mem (p f : Int) (l : List Int) (hp : p ∈ l) : p ∈ insP p f l ∧ f ∈ insP p f l := by
  unfold insP
  exact ⟨List.mem_flatMap.2 ⟨p, hp, by rw [if_pos rfl]; simp⟩, List.mem_flatMap.2 ⟨p, hp, by rw [if_pos rfl]; simp⟩⟩
/-- A tree that is split: it may be; its half killed, it is what it was. -/
theorem split_stays (hr : RightT t w h) {pane kind fresh : Int} (hk : (kind = 1 ∨ kind = 2) ∧ 1 ≤ fresh ∧ fresh ≤ 999) (hp : pane ∈ psA t) (hf : fresh ∉ psA t) (h8 : (psA t).length ≠ 8) (hn : ¬ cellsR R0 t w h pane kind < 3) :
    RightT (splitR R0 t pane kind fresh (cellsR R0 t w h pane kind)) w h ∧ psA (splitR R0 t pane kind fresh (cellsR R0 t w h pane kind)) = insP pane fresh (psA t) ∧ killR R0 (splitR R0 t pane kind fresh (cellsR R0 t w h pane kind)) w h fresh = t :=
  split_right hr hp hf hk.2.1 hk.2.2 hk.1 (by have := hr.few; omega) R0 (by decide) rfl (by omega)
end
end Go.Proofs.Ytplngfammfdemaa
end
