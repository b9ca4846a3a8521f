-- A copy of the text YtplngfammfdemaaGLat with what this claim does not reach left out (prune.py, a program of this project).
import Derived.Test.YtplngfammfdemaaZsGSom
import Derived.Test.YtplngfammfdemaaZsPx3
namespace Go.Proofs.Ytplngfammfdemaa
open Go.RowKit Go.Shelf Go.Proofs.YtplngfammfdemaaW.PrintWords Go.Proofs.YtplngfammfdemaaW.PrintLast Go.Proofs.YtplngfammfdemaaW.PrintMore P
attribute [local go_sem] Oper.semAt_some
set_option linter.unusedVariables false
set_option linter.unusedSimpArgs false
def better (b s : S48) : S48 := if b.f3 < s.f3 then s else b
def bestF (l : List S48) : S48 := l.foldl better ⟨0, 0, 0, -1⟩
theorem bestF_snoc (l : List S48) (x : S48) : bestF (l ++ [x]) = better (bestF l) x := by simp [bestF]
def seatC (x : S48) : Array Value := #[.int .i64 x.f0, .int .i64 x.f1, .int .i64 x.f2, .int .i64 x.f3]
theorem sput4 {W : World} {g : Nat} {x : S48} (h : W.heap[g]? = some (.cells (seatC x) 48 (0, 0))) (a b c d : Int) : ((((W.setCell ⟨g, 0, none⟩ (.int .i64 a)).setCell ⟨g, 1, none⟩ (.int .i64 b)).setCell ⟨g, 2, none⟩ (.int .i64 c)).setCell ⟨g, 3, none⟩ (.int .i64 d)).heap[g]? = some (.cells (seatC ⟨a, b, c, d⟩) 48 (0, 0)) :=
  blk_put (blk_put (blk_put (blk_put h 0 _ rfl) 1 _ rfl) 2 _ rfl) 3 _ rfl
theorem sfar4 {W : World} {g g' : Nat} {o : Array Value} {t : TypeId} (h : W.heap[g']? = some (.cells o t (0, 0))) (hne : g' ≠ g) (a b c d : Value) : ((((W.setCell ⟨g, 0, none⟩ a).setCell ⟨g, 1, none⟩ b).setCell ⟨g, 2, none⟩ c).setCell ⟨g, 3, none⟩ d).heap[g']? = some (.cells o t (0, 0)) :=
  blk_far (blk_far (blk_far (blk_far h hne _) hne _) hne _) hne _
theorem below4 {B g : Nat} {w W : World} (h : Below B w W) (hg : B ≤ g) (a b c d : Value) : Below B w ((((W.setCell ⟨g, 0, none⟩ a).setCell ⟨g, 1, none⟩ b).setCell ⟨g, 2, none⟩ c).setCell ⟨g, 3, none⟩ d) :=
  (((h.setCell (p := ⟨g, 0, none⟩) hg _).setCell (p := ⟨g, 1, none⟩) hg _).setCell (p := ⟨g, 2, none⟩) hg _).setCell (p := ⟨g, 3, none⟩) hg _
theorem others4 (W : World) (g : Nat) (a b c d : Value) : KeepsOthers W ((((W.setCell ⟨g, 0, none⟩ a).setCell ⟨g, 1, none⟩ b).setCell ⟨g, 2, none⟩ c).setCell ⟨g, 3, none⟩ d) :=
  (((KeepsOthers.setCell _ _ _).trans (KeepsOthers.setCell _ _ _)).trans (KeepsOthers.setCell _ _ _)).trans (KeepsOthers.setCell _ _ _)
def latR (l : List S48) : S48 × Int := if (bestF l).f3 < 0 then (⟨0, 0, 0, 0⟩, 5) else (bestF l, 0)
set_option maxRecDepth 100000 in
set_option maxHeartbeats 4000000 in
theorem latest_in (n : Nat) (hn : 2 ≤ n) (gf : FuncId) (lb : Array Value) (fn : Func) (hf : Try.prog.funcs[gf]? = some fn) (eg : ∀ args w, (callFunc gf args).run Try.prog w = .ok (.enter gf args) w) (zs : List S48) (N : Nat) (w w0 : World) (hw0 : Below w0.heap.size w0 w)
    (hseq : SeqStopsK Fence.wide (n - 1) Try.prog gf lb (fun x : S48 => #[seatW x]) (Below w0.heap.size) (fun ys => ys = zs) (fun _ => True) N w0) :
    CallsIn Fence.wide n Try.prog 61 #[.func (.func gf) #[] lb] w fun e W' => e = .returned (.tuple #[seatW (latR zs).1, .int .i64 (latR zs).2]) ∧ Below w.heap.size w W' := by
  have hu48 := Try.underlying48
  have h1 : 1 ≤ n := by omega
  refine callsIn_of_wp_marks Try.func61 rfl trivial ?_ rfl
  simp only [Try.ntmps61, List.size_toArray, List.length_cons, List.length_nil, Nat.reduceAdd, Nat.reduceSub, Array.replicate_succ, Array.replicate_zero, List.push_toArray, List.append_toArray, List.nil_append, List.cons_append]
  gi_wp2
  obtain ⟨W0, hW0⟩ : ∃ W0, ((w.alloc (Obj.cells #[Value.int IntKind.i64 0, Value.int IntKind.i64 0, Value.int IntKind.i64 0, Value.int IntKind.i64 0] 48)).alloc (Obj.cells #[Value.int IntKind.i64 0, Value.int IntKind.i64 0, Value.int IntKind.i64 0, Value.int IntKind.i64 (-1)] 48)) = W0 := ⟨_, rfl⟩
  have hB0 : Below w.heap.size w W0 := by rw [← hW0]; exact ((Below.refl _ w).alloc (Nat.le_refl _) _).alloc (by simp) _
  have hs0 : W0.heap.size = w.heap.size + 2 := by rw [← hW0]; simp
  have hbest : W0.heap[w.heap.size + 1]? = some (.cells (seatC (bestF [])) 48 (0, 0)) := by rw [← hW0]; have := World.alloc_heap_new (w.alloc (Obj.cells #[Value.int IntKind.i64 0, Value.int IntKind.i64 0, Value.int IntKind.i64 0, Value.int IntKind.i64 0] 48)) (Obj.cells #[Value.int IntKind.i64 0, Value.int IntKind.i64 0, Value.int IntKind.i64 0, Value.int IntKind.i64 (-1)] 48); rw [World.size_alloc] at this; exact this
  have hres : W0.heap[w.heap.size]? = some (.cells (seatC ⟨0, 0, 0, 0⟩) 48 (0, 0)) := by rw [← hW0]; exact blk_alloc (blk_new w _) _
  rw [hW0]
  have hw1 : Below w0.heap.size w0 W0 := hw0.trans (hB0.mono hw0.size)
  have hle : w0.heap.size ≤ w.heap.size := hw0.size
  clear hW0
  refine wpIn_rangeFunc_ownH rfl h1 (gf := gf) (lb := lb) rfl trivial eg hseq belowK_t (belowK_b (by omega)) hw1 (fun _ => rfl)
    (fun pre W => (W.heap[w.heap.size + 1]? = some (.cells (seatC (bestF pre)) 48 (0, 0)) ∧ W.heap[w.heap.size]? = some (.cells (seatC ⟨0, 0, 0, 0⟩) 48 (0, 0))) ∧ Below w.heap.size w W)
    (fun _ _ _ => False)
    (OwnFrom.and (OwnFrom.and ?own1 ?own2) (ownFrom_below (Nat.le_refl _) (by omega)))
    (fun _ _ _ _ _ hs _ _ => hs)
    ⟨⟨hbest, hres⟩, hB0⟩
    (fun x a' W => ∃ Bx, W0.heap.size ≤ Bx ∧ W.heap[Bx]? = some (.cells (seatC x) 48 (0, 0)) ∧ a' = { tmps := #[Value.func (Fn.func gf) #[] lb, undef, Value.pointer (some { block := w.heap.size, off := 0 }), Value.int IntKind.i64 0, Value.pointer (some { block := w.heap.size + 1, off := 0 }), .pointer (some ⟨Bx, 0, none⟩), Value.agg #[Value.int IntKind.i64 0, Value.int IntKind.i64 0, Value.int IntKind.i64 0, Value.int IntKind.i64 (-1)], Value.func (Fn.func gf) #[] lb, seatW x, undef, undef, undef, undef, undef, undef, undef, undef, undef, undef, undef], defers := [] })
    ?ownx ?assign ?body ?done ?stop
  case own1 =>
    intro s A B row hs hg hr
    exact (hg.block _ (blk_lt hs) (fun e => by obtain ⟨h3, o, ho, hc⟩ := hr _ e.symm; omega)).trans hs
  case own2 =>
    intro s A B row hs hg hr
    exact (hg.block _ (blk_lt hs) (fun e => by obtain ⟨h3, o, ho, hc⟩ := hr _ e.symm; omega)).trans hs
  case ownx =>
    rintro x a' s A B row ⟨Bx, h3, h4, h5⟩ hg hr
    exact ⟨Bx, h3, (hg.block _ (blk_lt h4) (fun e => by obtain ⟨_, o, ho, hc⟩ := hr _ e.symm; rw [h4] at ho; cases ho; cases hc)).trans h4, h5⟩
  case assign =>
    rintro l pre x W K ⟨⟨hb1, hr1⟩, hB1⟩ hK
    have hsz : W0.heap.size ≤ W.heap.size := by have := blk_lt hb1; omega
    unfold seatW
    gi_wp2
    exact hK _ _ ((KeepsOthers.alloc _ _).from _) ((Below.refl _ W).alloc (by omega) _) ⟨⟨blk_alloc hb1 _, blk_alloc hr1 _⟩, hB1.alloc (by omega) _⟩ ⟨W.heap.size, hsz, blk_new W _, rfl⟩
  case body =>
    rintro l pre x a' W hl ⟨r, hr⟩ ⟨⟨hb1, hr1⟩, hB1⟩ ⟨Bx, hBx, hbx, rfl⟩ hlt
    have z0 : W.cell? ⟨Bx, 0, none⟩ = some (.int .i64 x.f0) := (blk_cell hbx 0).trans rfl
    have z1 : W.cell? ⟨Bx, 1, none⟩ = some (.int .i64 x.f1) := (blk_cell hbx 1).trans rfl
    have z2 : W.cell? ⟨Bx, 2, none⟩ = some (.int .i64 x.f2) := (blk_cell hbx 2).trans rfl
    have z3 : W.cell? ⟨Bx, 3, none⟩ = some (.int .i64 x.f3) := (blk_cell hbx 3).trans rfl
    have y0 : W.cell? ⟨w.heap.size + 1, 0, none⟩ = some (.int .i64 (bestF pre).f0) := (blk_cell hb1 0).trans rfl
    have y1 : W.cell? ⟨w.heap.size + 1, 1, none⟩ = some (.int .i64 (bestF pre).f1) := (blk_cell hb1 1).trans rfl
    have y2 : W.cell? ⟨w.heap.size + 1, 2, none⟩ = some (.int .i64 (bestF pre).f2) := (blk_cell hb1 2).trans rfl
    have y3 : W.cell? ⟨w.heap.size + 1, 3, none⟩ = some (.int .i64 (bestF pre).f3) := (blk_cell hb1 3).trans rfl
    have u0 := blk_frozen hb1 0
    have u1 := blk_frozen hb1 1
    have u2 := blk_frozen hb1 2
    have u3 := blk_frozen hb1 3
    unfold seatW
    by_cases hc : (bestF pre).f3 < x.f3
    · have hc' : decide ((bestF pre).f3 < x.f3) = true := decide_eq_true hc
      have HC := Aside0.mk hc
      clear hc
      gi_wp2
      exact ⟨(others4 _ _ _ _ _ _).from _, below4 (Below.refl _ _) (by omega) _ _ _ _, ⟨by rw [bestF_snoc, better, if_pos HC.out]; exact sput4 hb1 _ _ _ _, sfar4 hr1 (by omega) _ _ _ _⟩, below4 hB1 (by omega) _ _ _ _⟩
    · have hc' : decide ((bestF pre).f3 < x.f3) = false := decide_eq_false hc
      have HC := Aside0.mk hc
      clear hc
      gi_wp2
      exact ⟨KeepsFrom.refl _ _, Below.refl _ _, ⟨by rw [bestF_snoc, better, if_neg (by have := HC.out; omega)]; exact hb1, hr1⟩, hB1⟩
  case done =>
    rintro D ys W hD rfl ⟨⟨hb1, hr1⟩, hB1⟩ hK
    have y0 : W.cell? ⟨w.heap.size + 1, 0, none⟩ = some (.int .i64 (bestF ys).f0) := (blk_cell hb1 0).trans rfl
    have y1 : W.cell? ⟨w.heap.size + 1, 1, none⟩ = some (.int .i64 (bestF ys).f1) := (blk_cell hb1 1).trans rfl
    have y2 : W.cell? ⟨w.heap.size + 1, 2, none⟩ = some (.int .i64 (bestF ys).f2) := (blk_cell hb1 2).trans rfl
    have y3 : W.cell? ⟨w.heap.size + 1, 3, none⟩ = some (.int .i64 (bestF ys).f3) := (blk_cell hb1 3).trans rfl
    have x0 : W.cell? ⟨w.heap.size, 0, none⟩ = some (.int .i64 0) := (blk_cell hr1 0).trans rfl
    have x1 : W.cell? ⟨w.heap.size, 1, none⟩ = some (.int .i64 0) := (blk_cell hr1 1).trans rfl
    have x2 : W.cell? ⟨w.heap.size, 2, none⟩ = some (.int .i64 0) := (blk_cell hr1 2).trans rfl
    have x3 : W.cell? ⟨w.heap.size, 3, none⟩ = some (.int .i64 0) := (blk_cell hr1 3).trans rfl
    have u0 := blk_frozen hr1 0
    have u1 := blk_frozen hr1 1
    have u2 := blk_frozen hr1 2
    have u3 := blk_frozen hr1 3
    by_cases hc : (bestF ys).f3 < 0
    · have hc' : decide ((bestF ys).f3 < 0) = true := decide_eq_true hc
      have HC := Aside0.mk hc
      clear hc
      gi_wp2
      have hK' := (others4 W w.heap.size (.int .i64 0) (.int .i64 0) (.int .i64 0) (.int .i64 0)).same D _ hK rfl
      have hr2 := sput4 hr1 0 0 0 0
      have hB2 := below4 hB1 (Nat.le_refl w.heap.size) (.int .i64 0) (.int .i64 0) (.int .i64 0) (.int .i64 0)
      refine ⟨by simp, .inl ⟨_, _, rfl, run_takeDeferred hK', ?_⟩⟩
      refine ⟨_, results_ct (P := Try.prog) rfl _ _ w.heap.size 48 (seatC ⟨0, 0, 0, 0⟩) (0, 0) _ rfl ?_ Try.underlying48 rfl (by kernel_rfl), ?_, hB2.trans (belowK_b (w := w) (Nat.le_refl _) _ D _ _ (by omega) hK' rfl rfl)⟩
      · exact (World.putObj_heap_other (by omega)).trans hr2
      · unfold latR; rw [if_pos HC.out]; rfl
    · have hc' : decide ((bestF ys).f3 < 0) = false := decide_eq_false hc
      have HC := Aside0.mk hc
      clear hc
      gi_wp2
      have hK' := (others4 W w.heap.size (.int .i64 (bestF ys).f0) (.int .i64 (bestF ys).f1) (.int .i64 (bestF ys).f2) (.int .i64 (bestF ys).f3)).same D _ hK rfl
      have hr2 := sput4 hr1 (bestF ys).f0 (bestF ys).f1 (bestF ys).f2 (bestF ys).f3
      have hB2 := below4 hB1 (Nat.le_refl w.heap.size) (.int .i64 (bestF ys).f0) (.int .i64 (bestF ys).f1) (.int .i64 (bestF ys).f2) (.int .i64 (bestF ys).f3)
      refine ⟨by simp, .inl ⟨_, _, rfl, run_takeDeferred hK', ?_⟩⟩
      refine ⟨_, results_ct (P := Try.prog) rfl _ _ w.heap.size 48 (seatC (bestF ys)) (0, 0) _ rfl ?_ Try.underlying48 rfl (by kernel_rfl), ?_, hB2.trans (belowK_b (w := w) (Nat.le_refl _) _ D _ _ (by omega) hK' rfl rfl)⟩
      · exact (World.putObj_heap_other (by omega)).trans hr2
      · unfold latR; rw [if_neg (by have := HC.out; omega)]; rfl
  case stop =>
    rintro D c pre W _ _ h _
    exact h.elim
end Go.Proofs.Ytplngfammfdemaa
