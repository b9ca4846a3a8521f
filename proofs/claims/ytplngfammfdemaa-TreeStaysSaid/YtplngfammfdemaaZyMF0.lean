-- Copies of the texts YtplngfammfdemaaGTree, YtplngfammfdemaaMF0 with what this claim does not reach left out (prune.py, a program of this project).
import Derived.Test.YtplngfammfdemaaZyGShort
import Derived.Test.YtplngfammfdemaaZyQx3
section
namespace Go.Proofs.Ytplngfammfdemaa
open Go.RowKit Go.Shelf Go.Proofs.YtplngfammfdemaaW.PrintWords Go.Proofs.YtplngfammfdemaaW.PrintLast Go.Proofs.YtplngfammfdemaaW.PrintMore Q
attribute [local go_sem] Oper.semAt_some
set_option linter.unusedVariables false
set_option linter.unusedSimpArgs false
def goodP (ps : List Int) : Bool := decide (ps.Nodup ∧ ps.length ≤ 8)
theorem goodP_snoc {ps : List Int} {x : Int} (h : goodP ps = true) : goodP (ps ++ [x]) = (!decide (x ∈ ps) && !decide (ps.length = 8)) := by
  unfold goodP at *
  have h := of_decide_eq_true h
  rw [Bool.eq_iff_iff]
  simp only [decide_eq_true_eq, List.nodup_append, List.length_append, List.length_singleton, Bool.and_eq_true, Bool.not_eq_true', decide_eq_false_iff_not]
  constructor
  · rintro ⟨⟨_, _, h3⟩, h4⟩
    exact ⟨fun hx => h3 x hx x (by simp) rfl, by omega⟩
  · rintro ⟨h1, h2⟩
    refine ⟨⟨h.1, by simp, fun a ha b hb => ?_⟩, by have := h.2; omega⟩
    rw [List.mem_singleton.1 hb]
    intro e; subst e; exact h1 ha
theorem goodP_prefix {q ps : List Int} (h : q <+: ps) (hq : goodP q = false) : goodP ps = false := by
  unfold goodP at *
  have hq := of_decide_eq_false hq
  refine decide_eq_false fun hp => hq ⟨?_, ?_⟩
  · exact hp.1.sublist h.sublist
  · exact Nat.le_trans h.length_le hp.2
structure SeenAt (w : World) (B1 B2 : Nat) (b : Bool) (pre : List Int) (W : World) : Prop where
  res : W.heap[B1]? = some (.cells #[.bool b] 4 (0, 0))
  box : ∃ v, W.heap[B2]? = some (.cells #[v] 22 (0, 0)) ∧ W.ownsRow w.heap.size 3 1 v pre.length (pre.map (Value.int .i64))
  below : Below w.heap.size w W
theorem row_C {W : World} {base : Nat} {v : Value} {xs : List Int} (h : W.ownsRow base 3 1 v xs.length (xs.map (Value.int .i64))) : ∃ A c, v = .slice A xs.length c ∧ Kd.C (Kd.int .i64) W A xs.length xs := by
  have hr : Reps ((Kd.int .i64).K W) 1 xs (xs.map (Value.int .i64)) := by
    refine ⟨by simp, fun j p hj => ?_⟩
    have hjl := (List.getElem?_eq_some_iff.1 hj).1
    have hp := (List.getElem?_eq_some_iff.1 hj).2
    rw [Nat.mul_one, List.drop_eq_getElem_cons (by simpa using hjl)]
    simp only [List.take_succ_cons, List.take_zero, List.getElem_map, hp]
    rfl
  exact own_reads_row h hr rfl
set_option maxRecDepth 100000 in
set_option maxHeartbeats 4000000 in
theorem right_loop (w : World) (t : S31) (A0 : Option Addr) (c0 : Nat) (k : Nat) (a1 a2 : Int) (hC : Kd.C k31 w A0 t.f3.length t.f3) (hc0 : t.f3.length ≤ c0) (hs : tree_size.f a1 a2 = some true) (hm : tree_made.f k t.f0 t.f1 t.f2 t.f3 a1 a2 0 = some true) (ps : List Int) (hp : panesK k t = some ps) :
    CallsIn Fence.wide 5 Try.prog 19 #[treeV t A0 c0, .int .i64 a1, .int .i64 a2] w fun e w' => e = .returned (.bool (goodP ps)) ∧ Below w.heap.size w w' := by
  obtain ⟨i0, hi, hz0, hz1, hz2⟩ := Ytplngfammfdemaa.info3
  have hu31 := Try.underlying31
  have HC := Aside0.mk hC
  have HC0 := Aside0.mk hc0
  have HS := Aside0.mk hs
  have HM := Aside0.mk hm
  have HP := Aside0.mk hp
  clear hC hc0 hs hm hp
  unfold treeV
  refine callsIn_of_wp_marks Try.func19 rfl trivial ?_ rfl
  simp only [Try.ntmps19, List.size_toArray, List.length_cons, List.length_nil, Nat.reduceAdd, Nat.reduceSub, Array.replicate_succ, Array.replicate_zero, List.push_toArray, List.append_toArray, List.nil_append, List.cons_append]
  gi_wp2
  refine ⟨trivial, ?_⟩
  obtain ⟨W0, hW0⟩ : ∃ W0, ((w.alloc (.cells #[.int .i64 t.f0, .int .i64 t.f1, .int .i64 t.f2, .slice A0 t.f3.length c0] 31)).alloc (.cells #[.bool false] 4)) = W0 := ⟨_, rfl⟩
  have hB0 : Below w.heap.size w W0 := by rw [← hW0]; exact below_alloc (below_alloc (Below.refl _ w) _) _
  have hT0 : W0.heap[w.heap.size]? = some (.cells (treeC t A0 c0) 31 (0, 0)) := by rw [← hW0]; exact blk_alloc (blk_new w _) _
  have hR0 : W0.heap[w.heap.size + 1]? = some (.cells #[.bool false] 4 (0, 0)) := by rw [← hW0]; have := blk_new (w.alloc (.cells #[.int .i64 t.f0, .int .i64 t.f1, .int .i64 t.f2, .slice A0 t.f3.length c0] 31)) (.cells #[.bool false] 4); rwa [World.size_alloc] at this
  rw [hW0]
  clear hW0
  refine (callsIn_wide.2 (tree_size.calls a1 a2 true _ HS.out)).mono ?_
  rintro e W1 ⟨rfl, hd⟩
  obtain ⟨nd, hd⟩ := hd.out
  have hb1 : Below W0.heap.size W0 W1 := by rw [hd]; exact pw_below_drewN (Below.refl _ _) nd
  have hT1 := blk_below hT0 hb1
  have hR1 := blk_below hR0 hb1
  have hB1 := below_step hB0 hb1
  clear hT0 hR0 hB0 hb1 hd
  have z0 : W1.cell? ⟨w.heap.size, 0, none⟩ = some (.int .i64 t.f0) := (blk_cell hT1 0).trans rfl
  have z1 : W1.cell? ⟨w.heap.size, 1, none⟩ = some (.int .i64 t.f1) := (blk_cell hT1 1).trans rfl
  have z2 : W1.cell? ⟨w.heap.size, 2, none⟩ = some (.int .i64 t.f2) := (blk_cell hT1 2).trans rfl
  have z3 : W1.cell? ⟨w.heap.size, 3, none⟩ = some (.slice A0 t.f3.length c0) := (blk_cell hT1 3).trans rfl
  have HT1 := Aside0.mk hT1
  have HR1 := Aside0.mk hR1
  have HB1 := Aside0.mk hB1
  clear hT1 hR1 hB1
  gi_wp2
  refine ⟨trivial, ?_⟩
  refine (callsIn_wide.2 (tree_made.calls k t.f0 t.f1 t.f2 A0 c0 t.f3 a1 a2 0 true _ (Kd.C_below HC.out HB1.out) HC0.out HM.out)).mono ?_
  clear z0 z1 z2 z3
  rintro e W2 ⟨rfl, hb2⟩
  have hT2 := blk_below HT1.out hb2
  have hR2 := blk_below HR1.out hb2
  have hB2 := below_step HB1.out hb2
  clear hb2 HT1 HR1 HB1
  have z0 : W2.cell? ⟨w.heap.size, 0, none⟩ = some (.int .i64 t.f0) := (blk_cell hT2 0).trans rfl
  have z1 : W2.cell? ⟨w.heap.size, 1, none⟩ = some (.int .i64 t.f1) := (blk_cell hT2 1).trans rfl
  have z2 : W2.cell? ⟨w.heap.size, 2, none⟩ = some (.int .i64 t.f2) := (blk_cell hT2 2).trans rfl
  have z3 : W2.cell? ⟨w.heap.size, 3, none⟩ = some (.slice A0 t.f3.length c0) := (blk_cell hT2 3).trans rfl
  have HR2 := Aside0.mk hR2
  have HB2 := Aside0.mk hB2
  have HLT := Aside0.mk (blk_lt hT2)
  have hlt2 := HLT.out
  have HT2 := Aside0.mk hT2
  clear hR2 hB2 hT2
  gi_wp2
  refine ⟨trivial, ?_⟩
  clear z0 z1 z2 z3
  refine (callsIn_wide.2 (panes_any t A0 c0 _)).mono ?_
  rintro e W3 ⟨rfl, rfl⟩
  obtain ⟨W4, hW4⟩ : ∃ W4, ((W2.alloc (.cells #[.slice none 0 0] 22)).alloc (.cells (treeC t A0 c0) 31)) = W4 := ⟨_, rfl⟩
  gi_wp2
  have hsz : w.heap.size + 1 < W2.heap.size := blk_lt HR2.out
  have hT4 : W4.heap[W2.heap.size + 1]? = some (.cells (treeC t A0 c0) 31 (0, 0)) := by rw [← hW4]; have := blk_new (W2.alloc (.cells #[.slice none 0 0] 22)) (.cells (treeC t A0 c0) 31); rwa [World.size_alloc] at this
  have hR4 : W4.heap[w.heap.size + 1]? = some (.cells #[.bool false] 4 (0, 0)) := by rw [← hW4]; exact blk_alloc (blk_alloc HR2.out _) _
  have hS4 : W4.heap[W2.heap.size]? = some (.cells #[.slice none 0 0] 22 (0, 0)) := by rw [← hW4]; exact blk_alloc (blk_new W2 _) _
  have hB4 : Below w.heap.size w W4 := by rw [← hW4]; exact below_alloc (below_alloc HB2.out _) _
  have h0 : SeenAt w (w.heap.size + 1) W2.heap.size false [] W4 := ⟨hR4, ⟨_, hS4, World.ownsRow_nil _ _ _ _⟩, hB4⟩
  have hle4 : w.heap.size ≤ W4.heap.size := hB4.size
  have hsz4 : W4.heap.size = W2.heap.size + 2 := by rw [← hW4]; simp
  have hseq := panes_stops k (W2.heap.size + 1) t A0 c0 ps w W4 hB4 HP.out hT4 HC.out
  have HSQ := Aside0.mk hseq
  clear hW4 hT4 hR4 hS4 hB4 hseq hlt2
  refine wpIn_rangeFunc_ownH rfl (by omega) (gf := 97) (lb := #[.pointer (some ⟨W2.heap.size + 1, 0, none⟩)]) rfl trivial (enters_of Try.func97 (by kernel_rfl) rfl) HSQ.out belowK_t (belowK_b hle4) (Below.refl _ _) (fun _ => rfl)
    (fun pre W => SeenAt w (w.heap.size + 1) W2.heap.size false pre W ∧ goodP pre = true)
    (fun c pre W => c = .ret ∧ W.heap[w.heap.size + 1]? = some (.cells #[.bool false] 4 (0, 0)) ∧ Below w.heap.size w W ∧ goodP pre = false)
    ?own
    ?own2
    ⟨h0, rfl⟩
    (fun x a' W => a' = { tmps := #[Value.agg #[.int .i64 t.f0, .int .i64 t.f1, .int .i64 t.f2, .slice A0 t.f3.length c0], .int .i64 a1, .int .i64 a2, .pointer (some ⟨w.heap.size, 0, none⟩), undef, undef, .pointer (some ⟨w.heap.size + 1, 0, none⟩), .pointer (some ⟨W2.heap.size, 0, none⟩), .int .i64 x, .int .i64 a1, .int .i64 a2, .bool true, .bool false, .bool false, .agg #[.int .i64 t.f0, .int .i64 t.f1, .int .i64 t.f2, .slice A0 t.f3.length c0], .int .i64 a1, .int .i64 a2, .bool true, .bool false, .bool false, .agg #[.int .i64 t.f0, .int .i64 t.f1, .int .i64 t.f2, .slice A0 t.f3.length c0], .func (.func 97) #[] #[.pointer (some ⟨W2.heap.size + 1, 0, none⟩)], .int .i64 x, undef, undef, undef, undef, undef, undef, undef, undef, undef, undef, undef, undef], defers := [] })
    ?ownx ?assign ?body ?done ?stop
  case own =>
    intro s A B row hs hg hr
    obtain ⟨⟨hres, ⟨v, hb, ho⟩, hB⟩, hgood⟩ := hs
    refine ⟨⟨?_, ⟨v, ?_, ho.kept hg ?_⟩, ownFrom_below (Nat.le_refl _) hle4 s A B row hB hg hr⟩, hgood⟩
    · exact (hg.block _ (blk_lt hres) (fun e => by obtain ⟨_, o, h1, h2⟩ := hr _ e.symm; rw [hres] at h1; cases h1; cases h2)).trans hres
    · exact (hg.block _ (blk_lt hb) (fun e => by obtain ⟨_, o, h1, h2⟩ := hr _ e.symm; rw [hb] at h1; cases h1; cases h2)).trans hb
    · rcases ho.2 with ⟨rfl, _⟩ | ⟨g, cap, cur, rfl, _, hgb, _⟩
      · exact .inl rfl
      · refine .inr fun e => ?_
        obtain ⟨_, o, h1, h2⟩ := hr g e.symm
        rw [hgb] at h1; cases h1; cases h2
  case own2 =>
    intro c s A B row hs hg hr
    obtain ⟨hc, hres, hB, hgood⟩ := hs
    exact ⟨hc, (hg.block _ (blk_lt hres) (fun e => by obtain ⟨_, o, h1, h2⟩ := hr _ e.symm; rw [hres] at h1; cases h1; cases h2)).trans hres, ownFrom_below (Nat.le_refl _) hle4 s A B row hB hg hr, hgood⟩
  case ownx =>
    rintro x a' s A B row h5 hg hr
    exact h5
  case assign =>
    rintro l pre x W K hI hK
    gi_wp2
    exact hK _ _ (KeepsFrom.refl _ _) (Below.refl _ _) hI rfl
  case body =>
    rintro l pre x a' W hl ⟨r, hr⟩ ⟨⟨hres, ⟨v, hb, ho⟩, hB⟩, hgood⟩ rfl hlt
    obtain ⟨A, c, rfl, hCr⟩ := row_C ho
    have hp8 : pre.length ≤ 8 := (of_decide_eq_true hgood).2
    have y0 : W.cell? ⟨W2.heap.size, 0, none⟩ = some (.slice A pre.length c) := (blk_cell hb 0).trans rfl
    have HCt := Aside0.mk (contains_any A c pre x W hCr (by omega))
    have HRes := Aside0.mk hres
    have HBox := Aside0.mk hb
    have HO := Aside0.mk ho
    have HB := Aside0.mk hB
    have HG := Aside0.mk hgood
    clear hres hb ho hB hgood hr hlt hCr
    have u0 := blk_frozen HRes.out 0
    have r0 : W.cell? ⟨w.heap.size + 1, 0, none⟩ = some (.bool false) := (blk_cell HRes.out 0).trans rfl
    have hsz2 : w.heap.size + 1 ≠ W2.heap.size := by omega
    have hsz3 : W2.heap.size ≠ w.heap.size + 1 := by omega
    by_cases hx : x ∈ pre
    · rw [decide_eq_true hx] at HCt
      have HX := Aside0.mk hx
      clear hx
      gi_wp2
      refine ⟨trivial, ?_⟩
      refine CallsIn.mono (F := Fence.wide.inRound l) ((callsIn_wide (n := 2)).2 HCt.out) ?_
      rintro e W5 ⟨rfl, rfl⟩
      gi_wp2
      refine ⟨(KeepsOthers.setCell _ _ _).from _, rfl, ?_, ?_, ?_⟩
      · exact blk_put HRes.out 0 (.bool false) rfl
      · exact HB.out.setCell (p := ⟨w.heap.size + 1, 0, none⟩) (by show w.heap.size ≤ w.heap.size + 1; omega) _
      · rw [goodP_snoc HG.out, decide_eq_true HX.out]; rfl
    · rw [decide_eq_false hx] at HCt
      have HX := Aside0.mk hx
      clear hx
      by_cases h8 : pre.length = 8
      · have c8 : (((pre.length : Nat) : Int) == 8) = true := by rw [h8]; rfl
        have HE := Aside0.mk h8
        clear h8
        gi_wp2
        refine ⟨trivial, ?_⟩
        refine CallsIn.mono (F := Fence.wide.inRound l) ((callsIn_wide (n := 2)).2 HCt.out) ?_
        rintro e W5 ⟨rfl, rfl⟩
        gi_wp2
        refine ⟨(KeepsOthers.setCell _ _ _).from _, rfl, ?_, ?_, ?_⟩
        · exact blk_put HRes.out 0 (.bool false) rfl
        · exact HB.out.setCell (p := ⟨w.heap.size + 1, 0, none⟩) (by show w.heap.size ≤ w.heap.size + 1; omega) _
        · rw [goodP_snoc HG.out, HE.out]; simp
      · have c8 : (((pre.length : Nat) : Int) == 8) = false := beq_eq_false_iff_ne.2 (by omega)
        have HE := Aside0.mk h8
        clear h8
        gi_wp2
        refine ⟨trivial, ?_⟩
        refine CallsIn.mono (F := Fence.wide.inRound l) ((callsIn_wide (n := 2)).2 HCt.out) ?_
        rintro e W5 ⟨rfl, rfl⟩
        have hne : (Value.slice A pre.length c).ownBlock ≠ some W2.heap.size := row_ne HO.out HBox.out (by decide)
        have hne2 : (Value.slice A pre.length c).ownBlock ≠ some (w.heap.size + 1) := row_ne HO.out HRes.out (by decide)
        have hbase : ∀ k, (Value.slice A pre.length c).ownBlock = some k → w.heap.size ≤ k := fun k e => (HO.out.lt k e).1
        have hbs := blk_lt HBox.out
        gi_wp2_with (gi_at_builtin; refine wpListIn_append_own _ rfl _ _ 22 rfl w.heap.size 3 i0 (.int .i64 0) 1 8 Try.underlying22 hi hz0 hz1 hz2 rfl (by decide) (.slice A pre.length c) _ _ rfl (HO.out.alloc _) ⟨W.heap.size, 0, none⟩ 1 1 [.int .i64 x] rfl rfl ?c1 ?c2 ?c3 ?c4 ?c5 ?_)
        case c1 =>
          intro j u hj
          match j, hj with
          | 0, hj =>
            rw [← Option.some.inj hj]
            exact (blk_cell (blk_new W _) 0).trans rfl
          | j + 1, hj => simp at hj
        case c2 => intro u hu; rw [List.mem_singleton.1 hu]; rfl
        case c3 => unfold maxLen; omega
        case c4 => omega
        case c5 => have := HB.out.size; simp; omega
        intro v' w1 hown hgrow _
        obtain ⟨A', n', c', rfl⟩ := row_slice hown
        have hb1 : w1.heap[W2.heap.size]? = some (.cells #[.slice A pre.length c] 22 (0, 0)) := (hgrow.block _ (by simp; omega) (fun e => hne e.symm)).trans (blk_alloc HBox.out _)
        have hr1 : w1.heap[w.heap.size + 1]? = some (.cells #[.bool false] 4 (0, 0)) := (hgrow.block _ (by simp; omega) (fun e => hne2 e.symm)).trans (blk_alloc HRes.out _)
        have u1 := blk_frozen hb1 0
        have y1 : w1.cell? ⟨W2.heap.size, 0, none⟩ = some (.slice A pre.length c) := (blk_cell hb1 0).trans rfl
        have HB1 := Aside0.mk hb1
        have HR1 := Aside0.mk hr1
        have HW1 := Aside0.mk hown
        have HG1 := Aside0.mk hgrow
        have hcells : ∀ (j : Nat) (o : Obj), (Value.slice A pre.length c).ownBlock = some j → (W.alloc (.cells #[.int .i64 x] 3)).heap[j]? = some o → o.isCells = true := by
          intro j o e ho'
          have hlt := (HO.out.lt j e).2
          rw [Below.heap_alloc _ _ _ hlt] at ho'
          rcases HO.out.2 with ⟨h1, _⟩ | ⟨g, cap, cur, h1, _, hg, _⟩
          · rw [h1] at e; cases e
          · rw [h1] at e
            have : g = j := by simpa [Value.ownBlock] using e
            subst this
            rw [hg] at ho'
            cases ho'; rfl
        have HCE := Aside0.mk hcells
        clear hb1 hown hgrow y0 hr1 r0 u0 hcells
        gi_wp2
        have hne1 : (Value.slice A' n' c').ownBlock ≠ some W2.heap.size := row_ne HW1.out HB1.out (by decide)
        have hb2 := blk_put HB1.out 0 (Value.slice A' n' c') rfl
        have hsB := HB.out.size
        refine ⟨?_, ?_, ⟨blk_far HR1.out hsz2 _, ⟨_, hb2, ?_⟩, ?_⟩, ?_⟩
        · exact (((KeepsOthers.alloc W _).trans (KeepsOthers.of_grownBy HG1.out HCE.out)).trans (KeepsOthers.setCell _ _ _)).from _
        · exact (((((Below.refl w.heap.size W).alloc (by omega) _).grown HG1.out (by simp; omega) (fun k e => hbase k e)).setCell (p := ⟨W2.heap.size, 0, none⟩) (by show w.heap.size ≤ W2.heap.size; omega) _))
        · have := HW1.out.kept (grownBy_setCell' w1 W2.heap.size (Value.slice A' n' c')) (.inr hne1)
          rw [List.length_append, List.map_append]
          exact this
        · exact (((HB.out.alloc (by omega) _).grown HG1.out (by simp; omega) (fun k e => hbase k e)).setCell (p := ⟨W2.heap.size, 0, none⟩) (by show w.heap.size ≤ W2.heap.size; omega) _)
        · rw [goodP_snoc HG.out, decide_eq_false HX.out, decide_eq_false HE.out]; rfl
  case done =>
    rintro D ys W hD rfl ⟨⟨hres, ⟨v, hb, ho⟩, hB⟩, hgood⟩ hK
    have u0 := blk_frozen hres 0
    have r0 : W.cell? ⟨w.heap.size + 1, 0, none⟩ = some (.bool false) := (blk_cell hres 0).trans rfl
    have HRes := Aside0.mk hres
    have HB := Aside0.mk hB
    have HG := Aside0.mk hgood
    clear hres hb ho hB hgood
    gi_wp2
    have hK' := (KeepsOthers.setCell W ⟨w.heap.size + 1, 0, none⟩ (.bool true)).same D _ hK rfl
    have hr2 := blk_put HRes.out 0 (.bool true) rfl
    have hB2 : Below w.heap.size w _ := HB.out.setCell (p := ⟨w.heap.size + 1, 0, none⟩) (by show w.heap.size ≤ w.heap.size + 1; omega) (.bool true)
    refine ⟨by simp, .inl ⟨_, _, rfl, run_takeDeferred hK', ?_⟩⟩
    have hx : ((W.setCell ⟨w.heap.size + 1, 0, none⟩ (.bool true)).putObj D (.deferred none)).cell? ⟨w.heap.size + 1, 0, none⟩ = some (.bool true) := (blk_cell ((World.putObj_heap_other (by omega)).trans hr2) 0).trans rfl
    refine ⟨.bool true, by simp [results, Try.results19, go_sem, hx], ?_, hB2.trans (belowK_b (w := w) (Nat.le_refl _) _ D _ _ (by omega) hK' rfl rfl)⟩
    rw [HG.out]
  case stop =>
    rintro D c pre W hD hpre ⟨rfl, hres, hB, hgood⟩ hK
    have HRes := Aside0.mk hres
    have HB := Aside0.mk hB
    have hg := goodP_prefix hpre hgood
    have HG := Aside0.mk hg
    clear hres hB hgood hg
    gi_wp2
    refine ⟨by simp, .inl ⟨_, _, rfl, run_takeDeferred hK, ?_⟩⟩
    have hx : (W.putObj D (.deferred none)).cell? ⟨w.heap.size + 1, 0, none⟩ = some (.bool false) := (blk_cell ((World.putObj_heap_other (by omega)).trans HRes.out) 0).trans rfl
    refine ⟨.bool false, by simp [results, Try.results19, go_sem, hx], ?_, HB.out.trans (belowK_b (w := w) (Nat.le_refl _) _ D _ _ (by omega) hK rfl rfl)⟩
    rw [HG.out]
theorem allK_mono {f g : S31 → Option (List Int)} (h : ∀ x, LeO (f x) (g x)) : ∀ l, LeO (allK f l) (allK g l)
  | [] => LeO.refl _
  | x :: l => by
    simp only [allK]
    exact LeO.bind (h x) (fun _ => LeO.bind (allK_mono h l) (fun _ => LeO.refl _))
theorem panesK_mono : ∀ k x, LeO (panesK k x) (panesK (k + 1) x)
  | 0, x => fun r h => by cases h
  | k + 1, x => by
    rw [panesK, panesK]
    exact LeO.ite (LeO.refl _) (LeO.ite (allK_mono (panesK_mono k) _) (LeO.refl _))
def tree_Right.f (k : Nat) (a0_0 a0_1 a0_2 : Int) (l0_3 : List S31) (a1 a2 : Int) : Option Bool :=
  (tree_size.f a1 a2).bind fun b1 => if b1 = true then (tree_made.f k a0_0 a0_1 a0_2 l0_3 a1 a2 0).bind fun b2 => (if b2 = true then (panesK k ⟨a0_0, a0_1, a0_2, l0_3⟩).bind fun ps => some (goodP ps) else some false) else some false
theorem tree_Right.mono : ∀ a0 a1 a2 a3 a4 a5 k, LeO (tree_Right.f k a0 a1 a2 a3 a4 a5) (tree_Right.f (k + 1) a0 a1 a2 a3 a4 a5) := by
  intro a0 a1 a2 a3 a4 a5 k
  unfold tree_Right.f
  refine LeO.bind (LeO.refl _) (fun b1 => LeO.ite (LeO.bind (tree_made.mono _ _ _ _ _ _ _ _) (fun b2 => LeO.ite (LeO.bind (panesK_mono _ _) (fun ps => LeO.refl _)) (LeO.refl _))) (LeO.refl _))
set_option maxRecDepth 100000 in
set_option maxHeartbeats 4000000 in
theorem right_size (w : World) (t : S31) (A0 : Option Addr) (c0 : Nat) (a1 a2 : Int) (hs : tree_size.f a1 a2 = some false) :
    Calls Try.prog 19 #[treeV t A0 c0, .int .i64 a1, .int .i64 a2] w fun e w' => e = .returned (.bool false) ∧ Below w.heap.size w w' := by
  have hu31 := Try.underlying31
  have HS := Aside0.mk hs
  clear hs
  unfold treeV
  have hB0 := Aside0.mk (below_alloc (below_alloc (Below.refl w.heap.size w) (.cells #[.int .i64 t.f0, .int .i64 t.f1, .int .i64 t.f2, .slice A0 t.f3.length c0] 31)) (.cells #[.bool false] 4))
  go_enter Try.func19, Try.ntmps19
  go_wp2_with (first | (go_at_call 58; refine (tree_size.calls a1 a2 false _ HS.out).mono ?_; rintro e W1 ⟨rfl, hd⟩; obtain ⟨nd, rfl⟩ := hd.out))
  refine bodyPost_ret (v := .bool false) (by simp [results, Try.results19, go_sem]) rfl ⟨rfl, ?_⟩
  exact (pw_below_drewN hB0.out nd).setCell (p := ⟨w.heap.size + 1, 0, none⟩) (by show w.heap.size ≤ w.heap.size + 1; omega) _
set_option maxRecDepth 100000 in
set_option maxHeartbeats 4000000 in
theorem right_made (w : World) (t : S31) (A0 : Option Addr) (c0 k : Nat) (a1 a2 : Int) (hC : Kd.C k31 w A0 t.f3.length t.f3) (hc0 : t.f3.length ≤ c0) (hs : tree_size.f a1 a2 = some true) (hm : tree_made.f k t.f0 t.f1 t.f2 t.f3 a1 a2 0 = some false) :
    Calls Try.prog 19 #[treeV t A0 c0, .int .i64 a1, .int .i64 a2] w fun e w' => e = .returned (.bool false) ∧ Below w.heap.size w w' := by
  have hu31 := Try.underlying31
  have HS := Aside0.mk hs
  have HM := Aside0.mk hm
  have HC := Aside0.mk hC
  have HC0 := Aside0.mk hc0
  clear hs hm hC hc0
  unfold treeV
  have hB0 := Aside0.mk (below_alloc (below_alloc (Below.refl w.heap.size w) (.cells #[.int .i64 t.f0, .int .i64 t.f1, .int .i64 t.f2, .slice A0 t.f3.length c0] 31)) (.cells #[.bool false] 4))
  have hR0 := blk_new (w.alloc (.cells #[.int .i64 t.f0, .int .i64 t.f1, .int .i64 t.f2, .slice A0 t.f3.length c0] 31)) (.cells #[.bool false] 4)
  rw [World.size_alloc] at hR0
  have HR0 := Aside0.mk hR0
  clear hR0
  go_enter Try.func19, Try.ntmps19
  go_wp2_with (first | (go_at_call 58; refine (tree_size.calls a1 a2 true _ HS.out).mono ?_; rintro e W1 ⟨rfl, hd⟩; obtain ⟨nd, rfl⟩ := hd.out) | (go_at_call 59; refine (tree_made.calls k t.f0 t.f1 t.f2 A0 c0 t.f3 a1 a2 0 false _ (Kd.C_below HC.out (pw_below_drewN hB0.out _)) HC0.out HM.out).mono ?_; rintro e W2 ⟨rfl, hb2⟩; have HR2 := Aside0.mk (blk_below (blk_drewN HR0.out _) hb2); have HB2 := Aside0.mk (below_step (pw_below_drewN hB0.out _) hb2); clear hb2; have u0 := blk_frozen HR2.out 0; have r0 : W2.cell? ⟨w.heap.size + 1, 0, none⟩ = some (.bool false) := (blk_cell HR2.out 0).trans rfl))
  have hx : (W2.setCell ⟨w.heap.size + 1, 0, none⟩ (.bool false)).cell? ⟨w.heap.size + 1, 0, none⟩ = some (.bool false) := (blk_cell (blk_put HR2.out 0 (.bool false) rfl) 0).trans rfl
  refine bodyPost_ret (v := .bool false) (by simp [results, Try.results19, go_sem, hx]) rfl ⟨rfl, ?_⟩
  exact HB2.out.setCell (p := ⟨w.heap.size + 1, 0, none⟩) (by show w.heap.size ≤ w.heap.size + 1; omega) _
theorem tree_Right.calls (k : Nat) (a0_0 a0_1 a0_2 : Int) (A0_3 : Option Addr) (c0_3 : Nat) (l0_3 : List S31) (a1 a2 : Int) (r : Bool) (w : World) (hr0_3 : Kd.C k31 w A0_3 l0_3.length l0_3) (hc0_3 : l0_3.length ≤ c0_3) (h : tree_Right.f k a0_0 a0_1 a0_2 l0_3 a1 a2 = some r) :
    Calls Try.prog 19 #[.agg #[.int .i64 a0_0, .int .i64 a0_1, .int .i64 a0_2, .slice A0_3 l0_3.length c0_3], .int .i64 a1, .int .i64 a2] w fun e w' => e = .returned (.bool r) ∧ Below w.heap.size w w' := by
  unfold tree_Right.f at h
  obtain ⟨b1, hb1, h⟩ := Option.bind_eq_some_iff.1 h
  cases b1 with
  | false =>
    rw [if_neg (by decide)] at h
    obtain rfl := Option.some.inj h
    exact right_size w ⟨a0_0, a0_1, a0_2, l0_3⟩ A0_3 c0_3 a1 a2 hb1
  | true =>
    rw [if_pos rfl] at h
    obtain ⟨b2, hb2, h⟩ := Option.bind_eq_some_iff.1 h
    cases b2 with
    | false =>
      rw [if_neg (by decide)] at h
      obtain rfl := Option.some.inj h
      exact right_made w ⟨a0_0, a0_1, a0_2, l0_3⟩ A0_3 c0_3 k a1 a2 hr0_3 hc0_3 hb1 hb2
    | true =>
      rw [if_pos rfl] at h
      obtain ⟨ps, hps, h⟩ := Option.bind_eq_some_iff.1 h
      obtain rfl := Option.some.inj h
      exact callsIn_wide.1 (right_loop w ⟨a0_0, a0_1, a0_2, l0_3⟩ A0_3 c0_3 k a1 a2 hr0_3 hc0_3 hb1 hb2 ps hps)
end Go.Proofs.Ytplngfammfdemaa
end
section
namespace Go.Proofs.Ytplngfammfdemaa
open Go.RowKit Go.Proofs.YtplngfammfdemaaW.PrintWords Go.Proofs.YtplngfammfdemaaW.PrintMore Q
set_option linter.unusedVariables false
set_option linter.unusedSimpArgs false
theorem wrap_i {i : Int} (h0 : -1000000000 ≤ i) (h1 : i ≤ 1000000000) : wrap64 i = i := by unfold wrap64; omega
theorem mono_ge {α : Type} {f : Nat → Option α} (hm : ∀ k, LeO (f k) (f (k + 1))) {k : Nat} {r : α} (h : f k = some r) : ∀ k', k ≤ k' → f k' = some r := by
  intro k' hk
  obtain ⟨d, rfl⟩ := Nat.exists_eq_add_of_le hk
  clear hk
  induction d with
  | zero => exact h
  | succ d ih => exact hm _ _ ih
theorem size_f (w h : Int) : tree_size.f w h = some (decide (1 ≤ w ∧ w ≤ 80 ∧ 1 ≤ h ∧ h ≤ 50)) := by
  unfold tree_size.f tree_in.f
  by_cases h1 : w ≥ 1
  · rw [if_pos h1, Option.bind_some]
    by_cases h2 : w ≤ 80
    · rw [if_pos (decide_eq_true h2)]
      by_cases h3 : h ≥ 1
      · rw [if_pos h3, Option.bind_some]
        congr 1
        rw [decide_eq_decide]; omega
      · rw [if_neg h3, Option.bind_some, decide_eq_false (by omega)]
    · rw [if_neg (by simpa using h2), decide_eq_false (by omega)]
  · rw [if_neg h1, Option.bind_some, if_neg (by decide), decide_eq_false (by omega)]
end Go.Proofs.Ytplngfammfdemaa
end
