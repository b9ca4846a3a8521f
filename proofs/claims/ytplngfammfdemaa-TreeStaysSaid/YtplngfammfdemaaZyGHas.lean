-- A copy of the text YtplngfammfdemaaGHas with what this claim does not reach left out (prune.py, a program of this project).
import Derived.Test.YtplngfammfdemaaZyMF0
namespace Go.Proofs.Ytplngfammfdemaa
open Go.RowKit Go.Shelf Go.Proofs.YtplngfammfdemaaW.PrintWords Go.Proofs.YtplngfammfdemaaW.PrintLast Go.Proofs.YtplngfammfdemaaW.PrintMore Q
attribute [local go_sem] Oper.semAt_some
set_option linter.unusedVariables false
set_option linter.unusedSimpArgs false
structure HasAt (w : World) (B1 B2 : Nat) (b : Bool) (p : Int) (W : World) : Prop where
  res : W.heap[B1]? = some (.cells #[.bool b] 4 (0, 0))
  box : W.heap[B2]? = some (.cells #[.int .i64 p] 3 (0, 0))
  below : Below w.heap.size w W
set_option maxRecDepth 100000 in
set_option maxHeartbeats 4000000 in
theorem has_loop (w : World) (t : S31) (A0 : Option Addr) (c0 : Nat) (k : Nat) (p : Int) (hC : Kd.C k31 w A0 t.f3.length t.f3) (ps : List Int) (hp : panesK k t = some ps) :
    CallsIn Fence.wide 5 Try.prog 74 #[treeV t A0 c0, .int .i64 p] w fun e w' => e = .returned (.bool (decide (p ∈ ps))) ∧ Below w.heap.size w w' := by
  have hu31 := Try.underlying31
  have HC := Aside0.mk hC
  have HP := Aside0.mk hp
  clear hC hp
  unfold treeV
  refine callsIn_of_wp_marks Try.func74 rfl trivial ?_ rfl
  simp only [Try.ntmps74, List.size_toArray, List.length_cons, List.length_nil, Nat.reduceAdd, Nat.reduceSub, Array.replicate_succ, Array.replicate_zero, List.push_toArray, List.append_toArray, List.nil_append, List.cons_append]
  gi_wp2
  refine ⟨trivial, ?_⟩
  refine (callsIn_wide.2 (panes_any t A0 c0 _)).mono ?_
  rintro e W3 ⟨rfl, rfl⟩
  obtain ⟨W4, hW4⟩ : ∃ W4, ((((w.alloc (.cells #[.int .i64 t.f0, .int .i64 t.f1, .int .i64 t.f2, .slice A0 t.f3.length c0] 31)).alloc (.cells #[.int .i64 p] 3)).alloc (.cells #[.bool false] 4)).alloc (.cells (treeC t A0 c0) 31)) = W4 := ⟨_, rfl⟩
  gi_wp2
  have hT4 : W4.heap[w.heap.size + 1 + 1 + 1]? = some (.cells (treeC t A0 c0) 31 (0, 0)) := by
    rw [← hW4]; have := blk_new (((w.alloc (.cells #[.int .i64 t.f0, .int .i64 t.f1, .int .i64 t.f2, .slice A0 t.f3.length c0] 31)).alloc (.cells #[.int .i64 p] 3)).alloc (.cells #[.bool false] 4)) (.cells (treeC t A0 c0) 31); rwa [World.size_alloc, World.size_alloc, World.size_alloc] at this
  have hR4 : W4.heap[w.heap.size + 1 + 1]? = some (.cells #[.bool false] 4 (0, 0)) := by
    rw [← hW4]; have := blk_new ((w.alloc (.cells #[.int .i64 t.f0, .int .i64 t.f1, .int .i64 t.f2, .slice A0 t.f3.length c0] 31)).alloc (.cells #[.int .i64 p] 3)) (.cells #[.bool false] 4); rw [World.size_alloc, World.size_alloc] at this; exact blk_alloc this _
  have hS4 : W4.heap[w.heap.size + 1]? = some (.cells #[.int .i64 p] 3 (0, 0)) := by
    rw [← hW4]; have := blk_new (w.alloc (.cells #[.int .i64 t.f0, .int .i64 t.f1, .int .i64 t.f2, .slice A0 t.f3.length c0] 31)) (.cells #[.int .i64 p] 3); rw [World.size_alloc] at this; exact blk_alloc (blk_alloc this _) _
  have hB4 : Below w.heap.size w W4 := by rw [← hW4]; exact below_alloc (below_alloc (below_alloc (below_alloc (Below.refl _ w) _) _) _) _
  have h0 : HasAt w (w.heap.size + 1 + 1) (w.heap.size + 1) false p W4 := ⟨hR4, hS4, hB4⟩
  have hle4 : w.heap.size ≤ W4.heap.size := hB4.size
  have hsz4 : W4.heap.size = w.heap.size + 4 := by rw [← hW4]; simp
  have hseq := panes_stops k (w.heap.size + 1 + 1 + 1) t A0 c0 ps w W4 hB4 HP.out hT4 HC.out
  have HSQ := Aside0.mk hseq
  clear hW4 hT4 hR4 hS4 hB4 hseq
  refine wpIn_rangeFunc_ownH rfl (by omega) (gf := 97) (lb := #[.pointer (some ⟨w.heap.size + 1 + 1 + 1, 0, none⟩)]) rfl trivial (enters_of Try.func97 (by kernel_rfl) rfl) HSQ.out belowK_t (belowK_b hle4) (Below.refl _ _) (fun _ => rfl)
    (fun pre W => HasAt w (w.heap.size + 1 + 1) (w.heap.size + 1) false p W ∧ p ∉ pre)
    (fun c pre W => c = .ret ∧ W.heap[w.heap.size + 1 + 1]? = some (.cells #[.bool true] 4 (0, 0)) ∧ Below w.heap.size w W ∧ p ∈ pre)
    ?own
    ?own2
    ⟨h0, by simp⟩
    (fun x a' W => a' = { tmps := #[Value.agg #[.int .i64 t.f0, .int .i64 t.f1, .int .i64 t.f2, .slice A0 t.f3.length c0], .int .i64 p, .pointer (some ⟨w.heap.size, 0, none⟩), .pointer (some ⟨w.heap.size + 1, 0, none⟩), .pointer (some ⟨w.heap.size + 1 + 1, 0, none⟩), .int .i64 x, .agg #[.int .i64 t.f0, .int .i64 t.f1, .int .i64 t.f2, .slice A0 t.f3.length c0], .func (.func 97) #[] #[.pointer (some ⟨w.heap.size + 1 + 1 + 1, 0, none⟩)], .int .i64 x, undef, undef, undef], defers := [] })
    ?ownx ?assign ?body ?done ?stop
  case own =>
    intro s A B row hs hg hr
    obtain ⟨⟨hres, hb, hB⟩, hp⟩ := hs
    refine ⟨⟨?_, ?_, ownFrom_below (Nat.le_refl _) hle4 s A B row hB hg hr⟩, hp⟩
    · exact (hg.block _ (blk_lt hres) (fun e => by obtain ⟨_, o, h1, h2⟩ := hr _ e.symm; rw [hres] at h1; cases h1; cases h2)).trans hres
    · exact (hg.block _ (blk_lt hb) (fun e => by obtain ⟨_, o, h1, h2⟩ := hr _ e.symm; rw [hb] at h1; cases h1; cases h2)).trans hb
  case own2 =>
    intro c s A B row hs hg hr
    obtain ⟨hc, hres, hB, hp⟩ := hs
    exact ⟨hc, (hg.block _ (blk_lt hres) (fun e => by obtain ⟨_, o, h1, h2⟩ := hr _ e.symm; rw [hres] at h1; cases h1; cases h2)).trans hres, ownFrom_below (Nat.le_refl _) hle4 s A B row hB hg hr, hp⟩
  case ownx =>
    rintro x a' s A B row h5 hg hr
    exact h5
  case assign =>
    rintro l pre x W K hI hK
    gi_wp2
    exact hK _ _ (KeepsFrom.refl _ _) (Below.refl _ _) hI rfl
  case body =>
    rintro l pre x a' W hl ⟨r, hr⟩ ⟨⟨hres, hb, hB⟩, hp⟩ rfl hlt
    have y0 : W.cell? ⟨w.heap.size + 1, 0, none⟩ = some (.int .i64 p) := (blk_cell hb 0).trans rfl
    have u0 := blk_frozen hres 0
    have r0 : W.cell? ⟨w.heap.size + 1 + 1, 0, none⟩ = some (.bool false) := (blk_cell hres 0).trans rfl
    have HRes := Aside0.mk hres
    have HBox := Aside0.mk hb
    have HB := Aside0.mk hB
    have HPr := Aside0.mk hp
    clear hres hb hB hp hr hlt
    by_cases hx : x = p
    · have hx1 : (x == p) = true := beq_iff_eq.2 hx
      have HX := Aside0.mk hx
      clear hx
      gi_wp2
      refine ⟨(KeepsOthers.setCell _ _ _).from _, rfl, ?_, ?_, ?_⟩
      · exact blk_put HRes.out 0 (.bool true) rfl
      · exact HB.out.setCell (p := ⟨w.heap.size + 1 + 1, 0, none⟩) (by show w.heap.size ≤ w.heap.size + 1 + 1; omega) _
      · rw [HX.out]; simp
    · have hx1 : (x == p) = false := beq_eq_false_iff_ne.2 hx
      have HX := Aside0.mk hx
      clear hx
      gi_wp2
      refine ⟨KeepsFrom.refl _ _, Below.refl _ _, ⟨HRes.out, HBox.out, HB.out⟩, ?_⟩
      intro h
      rcases List.mem_append.1 h with h | h
      · exact HPr.out h
      · exact HX.out (List.mem_singleton.1 h).symm
  case done =>
    rintro D ys W hD rfl ⟨⟨hres, hb, hB⟩, hp⟩ hK
    have u0 := blk_frozen hres 0
    have r0 : W.cell? ⟨w.heap.size + 1 + 1, 0, none⟩ = some (.bool false) := (blk_cell hres 0).trans rfl
    have HRes := Aside0.mk hres
    have HB := Aside0.mk hB
    have HG := Aside0.mk hp
    clear hres hb hB hp
    gi_wp2
    have hK' := (KeepsOthers.setCell W ⟨w.heap.size + 1 + 1, 0, none⟩ (.bool false)).same D _ hK rfl
    have hr2 := blk_put HRes.out 0 (.bool false) rfl
    have hB2 : Below w.heap.size w _ := HB.out.setCell (p := ⟨w.heap.size + 1 + 1, 0, none⟩) (by show w.heap.size ≤ w.heap.size + 1 + 1; omega) (.bool false)
    refine ⟨by simp, .inl ⟨_, _, rfl, run_takeDeferred hK', ?_⟩⟩
    have hx : ((W.setCell ⟨w.heap.size + 1 + 1, 0, none⟩ (.bool false)).putObj D (.deferred none)).cell? ⟨w.heap.size + 1 + 1, 0, none⟩ = some (.bool false) := (blk_cell ((World.putObj_heap_other (by omega)).trans hr2) 0).trans rfl
    refine ⟨.bool false, by simp [results, Try.results74, go_sem, hx], ?_, hB2.trans (belowK_b (w := w) (Nat.le_refl _) _ D _ _ (by omega) hK' rfl rfl)⟩
    rw [decide_eq_false HG.out]
  case stop =>
    rintro D c pre W hD hpre ⟨rfl, hres, hB, hp⟩ hK
    have HRes := Aside0.mk hres
    have HB := Aside0.mk hB
    have hg : p ∈ ps := hpre.subset hp
    have HG := Aside0.mk hg
    clear hres hB hp hg
    gi_wp2
    refine ⟨by simp, .inl ⟨_, _, rfl, run_takeDeferred hK, ?_⟩⟩
    have hx : (W.putObj D (.deferred none)).cell? ⟨w.heap.size + 1 + 1, 0, none⟩ = some (.bool true) := (blk_cell ((World.putObj_heap_other (by omega)).trans HRes.out) 0).trans rfl
    refine ⟨.bool true, by simp [results, Try.results74, go_sem, hx], ?_, HB.out.trans (belowK_b (w := w) (Nat.le_refl _) _ D _ _ (by omega) hK rfl rfl)⟩
    rw [decide_eq_true HG.out]
theorem has_any (w : World) (t : S31) (A0 : Option Addr) (c0 : Nat) (k : Nat) (p : Int) (hC : Kd.C k31 w A0 t.f3.length t.f3) (ps : List Int) (hp : panesK k t = some ps) :
    Calls Try.prog 74 #[treeV t A0 c0, .int .i64 p] w fun e w' => e = .returned (.bool (decide (p ∈ ps))) ∧ Below w.heap.size w w' :=
  callsIn_wide.1 (has_loop w t A0 c0 k p hC ps hp)
end Go.Proofs.Ytplngfammfdemaa
