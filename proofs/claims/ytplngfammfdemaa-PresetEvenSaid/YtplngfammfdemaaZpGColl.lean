-- A copy of the text YtplngfammfdemaaGColl with what this claim does not reach left out (prune.py, a program of this project).
import Derived.Test.YtplngfammfdemaaZpGChunk
namespace Go.Proofs.Ytplngfammfdemaa
open Go.RowKit Go.Shelf Go.Proofs.YtplngfammfdemaaW.PrintWords Go.Proofs.YtplngfammfdemaaW.PrintLast Go.Proofs.YtplngfammfdemaaW.PrintMore
attribute [local go_sem] Oper.semAt_some
set_option linter.unusedVariables false
set_option linter.unusedSimpArgs false
theorem info22 : ∃ i, Try.prog.info? 22 = some i ∧ i.zero = some (.slice none 0 0) ∧ i.size = 1 ∧ i.bytes = 24 := by
  obtain ⟨i, hi, h1, h2, h3⟩ := info_parts (show (Try.prog.info? 22).map (fun i => (i.zero, i.size, i.bytes)) = some (some (.slice none 0 0), 1, 24) by kernel_rfl)
  exact ⟨i, hi, h1, h2, h3⟩
/-- A row of the call's own lies in no box of another type. -/
theorem row_ne {W : World} {base : Nat} {e : TypeId} {size : Nat} {v : Value} {n : Nat} {xs : List Value} (h : W.ownsRow base e size v n xs) {B : Nat} {o : Array Value} {t : TypeId} (hB : W.heap[B]? = some (.cells o t (0, 0))) (hne : e ≠ t) : v.ownBlock ≠ some B := by
  rcases h.2 with ⟨rfl, _⟩ | ⟨g, cap, cur, rfl, _, hg, _⟩
  · intro e'; cases e'
  · intro e'
    have : g = B := by simpa [Value.ownBlock] using e'
    subst this
    rw [hB] at hg
    cases hg
    exact hne rfl
theorem row_slice {W : World} {base : Nat} {e : TypeId} {size : Nat} {v : Value} {n : Nat} {xs : List Value} (h : W.ownsRow base e size v n xs) : ∃ A k c, v = .slice A k c := by
  rcases h.2 with ⟨rfl, _⟩ | ⟨g, cap, cur, rfl, _⟩ <;> exact ⟨_, _, _, rfl⟩
structure CollAt {α : Type} (w : World) (Bs : Nat) (enc : α → Value) (pre : List α) (W : World) : Prop where
  box : ∃ v, W.heap[Bs]? = some (.cells #[v] 121 (0, 0)) ∧ W.ownsRow w.heap.size 22 1 v pre.length (pre.map enc)
  below : Below w.heap.size w W
set_option maxRecDepth 100000 in
set_option maxHeartbeats 4000000 in
theorem appendSeq_in {α : Type} (ad : α → Option Addr) (ln cp : α → Nat) (n : Nat) (hn : 2 ≤ n) (gf : FuncId) (lb : Array Value) (eg : ∀ args w, (callFunc gf args).run Try.prog w = .ok (.enter gf args) w) (zs : List α) (Sp : List α → Prop) (N : Nat) (hN : N ≤ 1000) (w w0 : World) (hw0 : Below w0.heap.size w0 w)
    (hseq : SeqStopsK Fence.wide (n - 1) Try.prog gf lb (fun x : α => #[Value.slice (ad x) (ln x) (cp x)]) (Below w0.heap.size) (fun ys => ys = zs) Sp N w0) :
    CallsIn Fence.wide n Try.prog 121 #[.slice none 0 0, .func (.func gf) #[] lb] w fun e w' => ∃ v, e = .returned v ∧ w'.ownsRow w.heap.size 22 1 v zs.length (zs.map (fun x => Value.slice (ad x) (ln x) (cp x))) ∧ Below w.heap.size w w' := by
  obtain ⟨i0, hi, hz0, hz1, hz2⟩ := info22
  refine callsIn_of_wp_marks Try.func121 rfl trivial ?_ rfl
  simp only [Try.ntmps121, List.size_toArray, List.length_cons, List.length_nil, Nat.reduceAdd, Nat.reduceSub, Array.replicate_succ, Array.replicate_zero, List.push_toArray, List.append_toArray, List.nil_append, List.cons_append]
  gi_wp2
  obtain ⟨W0, hW0⟩ : ∃ W0, (w.alloc (Obj.cells #[Value.slice none 0 0] 121)) = W0 := ⟨_, rfl⟩
  have hB0 : Below w.heap.size w W0 := by rw [← hW0]; exact ((Below.refl _ w).alloc (Nat.le_refl _) _)
  have hs0 : W0.heap.size = w.heap.size + 1 := by rw [← hW0]; simp
  have hbox : W0.heap[w.heap.size]? = some (.cells #[Value.slice none 0 0] 121 (0, 0)) := by rw [← hW0]; exact blk_new w _
  rw [hW0]
  have hw1 : Below w0.heap.size w0 W0 := hw0.trans (hB0.mono hw0.size)
  have hle : w0.heap.size ≤ w.heap.size := hw0.size
  have h0 : CollAt w w.heap.size (fun x => Value.slice (ad x) (ln x) (cp x)) [] W0 := ⟨⟨_, hbox, World.ownsRow_nil _ _ _ _⟩, hB0⟩
  clear hW0
  refine wpIn_rangeFunc_ownH rfl (by omega) (gf := gf) (lb := lb) rfl trivial eg hseq belowK_t (belowK_b (by omega)) hw1 (fun _ => rfl)
    (fun pre W => CollAt w w.heap.size (fun x => Value.slice (ad x) (ln x) (cp x)) pre W)
    (fun _ _ _ => False)
    ?own
    (fun _ _ _ _ _ hs _ _ => hs)
    h0
    (fun x a' W => a' = { tmps := #[Value.slice none 0 0, Value.func (Fn.func gf) #[] lb, Value.pointer (some { block := w.heap.size, off := 0 }), undef, Value.slice none 0 0, Value.slice (ad x) (ln x) (cp x), Value.func (Fn.func gf) #[] lb, Value.slice (ad x) (ln x) (cp x), undef, undef, undef, undef, undef], defers := [] })
    ?ownx ?assign ?body ?done ?stop
  case own =>
    intro s A B row hs hg hr
    obtain ⟨⟨v, hb, ho⟩, hB⟩ := hs
    refine ⟨⟨v, ?_, ho.kept hg ?_⟩, ownFrom_below (Nat.le_refl _) (by omega) s A B row hB hg hr⟩
    · exact (hg.block _ (blk_lt hb) (fun e => by obtain ⟨_, o, h1, h2⟩ := hr _ e.symm; rw [hb] at h1; cases h1; cases h2)).trans hb
    · rcases ho.2 with ⟨rfl, _⟩ | ⟨g, cap, cur, rfl, _, hgb, _⟩
      · exact .inl rfl
      · refine .inr fun e => ?_
        obtain ⟨_, o, h1, h2⟩ := hr g e.symm
        rw [hgb] at h1; cases h1; cases h2
  case ownx =>
    rintro x a' s A B row h5 hg hr
    exact h5
  case assign =>
    rintro l pre x W K hI hK
    gi_wp2
    exact hK _ _ (KeepsFrom.refl _ _) (Below.refl _ _) hI rfl
  case body =>
    rintro l pre x a' W hl ⟨r, hr⟩ hI rfl hlt
    obtain ⟨⟨v, hb, ho⟩, hB⟩ := hI
    have hbs := blk_lt hb
    have y0 : W.cell? ⟨w.heap.size, 0, none⟩ = some v := (blk_cell hb 0).trans rfl
    have hne : v.ownBlock ≠ some w.heap.size := row_ne ho hb (by decide)
    have hbase : ∀ k, v.ownBlock = some k → w.heap.size ≤ k := fun k e => (ho.lt k e).1
    have hcells : ∀ (j : Nat) (o : Obj), v.ownBlock = some j → (W.alloc (.cells #[Value.slice (ad x) (ln x) (cp x)] 22)).heap[j]? = some o → o.isCells = true := by
      intro j o e ho'
      have hlt := (ho.lt j e).2
      rw [Below.heap_alloc _ _ _ hlt] at ho'
      rcases ho.2 with ⟨rfl, _⟩ | ⟨g, cap, cur, rfl, _, hg, _⟩
      · cases e
      · have : g = j := by simpa [Value.ownBlock] using e
        subst this
        rw [hg] at ho'
        cases ho'; rfl
    have HB := Aside0.mk hB
    have HBX := Aside0.mk hb
    have HL := Aside0.mk hlt
    clear hB hb hr hlt
    gi_wp2_with (gi_at_builtin; refine wpListIn_append_own _ rfl _ _ 121 rfl w.heap.size 22 i0 (.slice none 0 0) 1 24 Try.underlying121 hi hz0 hz1 hz2 rfl (by decide) v _ _ rfl (ho.alloc _) ⟨W.heap.size, 0, none⟩ 1 1 [Value.slice (ad x) (ln x) (cp x)] rfl rfl ?c1 ?c2 ?c3 ?c4 ?c5 ?_)
    case c1 =>
      intro j u hj
      match j, hj with
      | 0, hj =>
        rw [← Option.some.inj hj]
        exact (blk_cell (blk_new W _) 0).trans rfl
      | j + 1, hj => simp at hj
    case c2 => intro u hu; rw [List.mem_singleton.1 hu]; rfl
    case c3 => unfold maxLen; have := HL.out; omega
    case c4 => have := HL.out; omega
    case c5 => simp; omega
    intro v' w1 hown hgrow _
    obtain ⟨A', n', c', rfl⟩ := row_slice hown
    have hb1 : w1.heap[w.heap.size]? = some (.cells #[v] 121 (0, 0)) := (hgrow.block _ (by simp; omega) (fun e => hne e.symm)).trans (blk_alloc HBX.out _)
    have u0 := blk_frozen hb1 0
    have y1 : w1.cell? ⟨w.heap.size, 0, none⟩ = some v := (blk_cell hb1 0).trans rfl
    have HB1 := Aside0.mk hb1
    have HW1 := Aside0.mk hown
    have HG1 := Aside0.mk hgrow
    clear hb1 hown hgrow y0 ho
    gi_wp2
    have hne1 : (Value.slice A' n' c').ownBlock ≠ some w.heap.size := row_ne HW1.out HB1.out (by decide)
    have hb2 := blk_put HB1.out 0 (Value.slice A' n' c') rfl
    refine ⟨?_, ?_, ⟨⟨_, hb2, ?_⟩, ?_⟩⟩
    · exact (((KeepsOthers.alloc W _).trans (KeepsOthers.of_grownBy HG1.out hcells)).trans (KeepsOthers.setCell _ _ _)).from _
    · exact ((((Below.refl _ W).alloc (by omega) _).grown HG1.out (by simp; omega) (fun k e => by have := hbase k e; omega)).setCell (p := ⟨w.heap.size, 0, none⟩) (by show w0.heap.size ≤ w.heap.size; omega) _)
    · have := HW1.out.kept (grownBy_setCell' w1 w.heap.size (Value.slice A' n' c')) (.inr hne1)
      rw [List.length_append, List.map_append]
      exact this
    · exact (((HB.out.alloc (by omega) _).grown HG1.out (by simp; omega) (fun k e => hbase k e)).setCell (p := ⟨w.heap.size, 0, none⟩) (Nat.le_refl _) _)
  case done =>
    rintro D ys W hD rfl hI hK
    obtain ⟨⟨v, hb, ho⟩, hB⟩ := hI
    have y0 : W.cell? ⟨w.heap.size, 0, none⟩ = some v := (blk_cell hb 0).trans rfl
    have HO := Aside0.mk ho
    have HB := Aside0.mk hB
    clear ho hB hb
    gi_wp2
    refine ⟨by simp, .inl ⟨_, _, rfl, run_takeDeferred hK, ?_⟩⟩
    refine ⟨v, by simp [results, Try.results121, go_sem], v, rfl, ?_, ?_⟩
    · refine HO.out.kept (grownBy_putObj' W D _) ?_
      rcases HO.out.2 with ⟨rfl, _⟩ | ⟨g, cap, cur, rfl, _, hgb, _⟩
      · exact .inl rfl
      · refine .inr fun e => ?_
        have : g = D := by simpa [Value.ownBlock] using e
        subst this
        rw [hgb] at hK; cases hK
    · exact HB.out.trans (belowK_b (w := w) (Nat.le_refl _) _ D _ _ (by omega) hK rfl rfl)
  case stop =>
    rintro D c pre W _ _ h _
    exact h.elim
end Go.Proofs.Ytplngfammfdemaa
