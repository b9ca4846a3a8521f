-- Copies of the texts YtplngfammfdemaaGChunk, YtplngfammfdemaaGColl, YtplngfammfdemaaGEach, YtplngfammfdemaaGEachC with what this claim does not reach left out (prune.py, a program of this project).
import Derived.Test.YtplngfammfdemaaZtQx14
import Derived.RangeFuncNested
import Derived.RangeFuncBound
import Derived.RangeFuncCalls
import Derived.RangeFuncLeaves
import Derived.Shelf.Abstract
import Derived.Shelf.RegionOpen
import Derived.WalkKit
import Derived.OwnWalkIn
import Derived.TacticsInMore
import Derived.LoopNIn
import Derived.LoopIn
import Derived.Sort.QuietIn
section
namespace Go.Proofs.Ytplngfammfdemaa
open Go.RowKit Go.Shelf Go.Proofs.YtplngfammfdemaaW.PrintWords Go.Proofs.YtplngfammfdemaaW.PrintLast Go.Proofs.YtplngfammfdemaaW.PrintMore
attribute [local go_sem] Oper.semAt_some max2_int min2_int max_two min_two
set_option linter.unusedVariables false
set_option linter.unusedSimpArgs false
theorem chunk_measure {len m i : Nat} (h : i < len) (hm : 1 ≤ m) (h8 : wrap64 ((i : Int) + (m : Int)) = (i : Int) + (m : Int)) : len + m - (intOf (.int .i64 (wrap64 ((i : Int) + (m : Int))))).toNat < len + m - (intOf (.int .i64 (i : Int))).toNat := by
  rw [h8]
  have e1 : intOf (.int .i64 ((i : Int) + (m : Int))) = (i : Int) + (m : Int) := rfl
  have e2 : intOf (.int .i64 (i : Int)) = (i : Int) := rfl
  rw [e1, e2]
  omega
set_option maxRecDepth 100000 in
set_option maxHeartbeats 4000000 in
theorem chunk1_in (n : Nat) (hn : 1 ≤ n) (l Bs Bn : Nat) (ad : Addr) (len c m : Nat) (w0 : World) (hm : 1 ≤ m) (hm2 : m < 1000) (hlen : len < 1000000000000) (hc : len ≤ c) (hBs : w0.cell? ⟨Bs, 0, none⟩ = some (.slice (some ad) len c)) (hBn : w0.cell? ⟨Bn, 0, none⟩ = some (.int .i64 m)) (J : Nat → World → Prop) (Jx : Nat → World → Prop)
    (hJ : ∀ s W W', J s W → Below W.heap.size W W' → J s W')
    (hY : ∀ i W, J i W → i < len → YieldAt Fence.wide (n - 1) Try.prog l #[.slice (some (ad.add i)) (Nat.min m (len - i)) (Nat.min m (len - i))] W fun e W' =>
      (e = .returned (.bool true) ∧ J (i + m) W' ∧ Below w0.heap.size W W') ∨ (e = .returned (.bool false) ∧ Jx i W'))
    (W : World) (hW : Below w0.heap.size w0 W) (h0 : J 0 W) :
    CallsIn Fence.wide n Try.prog 122 #[.func (.yield l) #[] #[], .pointer (some ⟨Bs, 0, none⟩), .pointer (some ⟨Bn, 0, none⟩)] W fun e W' => (∃ v, e = .returned v) ∧
      ((∃ i, len ≤ i ∧ J i W') ∨ (∃ i, Jx i W')) := by
  have hBs1 := (hW.cell (World.block_lt_of_cell? w0 _ hBs)).trans hBs
  have hBn1 := (hW.cell (World.block_lt_of_cell? w0 _ hBn)).trans hBn
  have HL := Aside0.mk hlen
  have HW := Aside0.mk hW
  refine callsIn_of_wp Try.func122 rfl trivial ?_ rfl
  simp only [Try.ntmps122, List.size_toArray, List.length_cons, List.length_nil, Nat.reduceAdd, Nat.reduceSub, Array.replicate_succ, Array.replicate_zero, List.push_toArray, List.append_toArray, List.nil_append, List.cons_append]
  clear hlen hW
  gi_wp2
  gi_loopw [4] (fun v wr => ∃ i : Nat, v = .int .i64 i ∧ Aside0 (J i wr ∧ Below w0.heap.size w0 wr))
    (fun v _ => len + m - (intOf v).toNat)
  case atStart => exact ⟨0, rfl, ⟨h0, HW.out⟩⟩
  case round =>
    clear hBs1 hBn1
    obtain ⟨i, rfl, HJ⟩ := hrel
    obtain ⟨hJs, hB⟩ := HJ.out
    have hl := HL.out
    have hBs1 := (hB.cell (World.block_lt_of_cell? w0 _ hBs)).trans hBs
    have hBn1 := (hB.cell (World.block_lt_of_cell? w0 _ hBn)).trans hBn
    by_cases hlt : i < len
    · as_aux_lemma =>
      have c4b0 : decide ((i : Int) < (len : Int)) = true := decide_eq_true (by omega)
      have n1 : (0 : Int) ≤ (i : Int) := by omega
      have n2 : (i : Int) ≤ (len : Int) := by omega
      have n3 : (i < len) = True := eq_true hlt
      have n4 : (len = i) = False := eq_false (by omega)
      have HH := Aside0.mk hc
      have n5 : (i : Int) ≤ (c : Int) := by have := HH.out; omega
      have n6 : (len : Int) ≤ (c : Int) := by have := HH.out; omega
      have n7 : (c = i) = False := eq_false (by have := HH.out; have := n4; omega)
      have hY1 := fun W' hJ' => hY i W' hJ' hlt
      have hq1 : Nat.min m (len - i) ≤ len - i := Nat.min_le_right _ _
      have hq2 : 1 ≤ Nat.min m (len - i) := by simp only [Nat.min_def]; split <;> omega
      have hqI : (if len - i < m then ((len - i : Nat) : Int) else (m : Int)) = ((Nat.min m (len - i) : Nat) : Int) := by simp only [Nat.min_def]; split <;> split <;> omega
      generalize Nat.min m (len - i) = q at hY1 hq1 hq2 hqI
      have HQ := Aside0.mk (show 1 ≤ q ∧ i + q ≤ len by omega)
      have HY := Aside0.mk hY1
      have k1 : (i : Int) + (q : Int) ≤ (c : Int) := by have := HH.out; omega
      have k2 : (0 : Int) ≤ (i : Int) + (q : Int) := by omega
      have k3 : (i : Int) ≤ (i : Int) + (q : Int) := by omega
      have k4 : IntKind.i64.wrap ((i : Int) + (q : Int)) = (i : Int) + (q : Int) := by rw [IntKind.wrap_i64]; omega
      have k5 : ((i : Int) + (q : Int)).toNat = i + q := by omega
      have k6 : i + q - i = q := by omega
      have K8 : Aside0 (wrap64 ((i : Int) + (m : Int)) = (i : Int) + (m : Int)) := ⟨by rw [← i64_w, IntKind.wrap_i64]; omega⟩
      have k7 : (q = 0) = False := eq_false (by omega)
      have HBw := Aside0.mk hB
      have HJs := Aside0.mk hJs
      clear hlt hl hB hJs HJ hc hq1 hq2 hY hY1
      gi_wp2
      gi_quiet (fail)
      all_goals as_aux_lemma => (
        clear hqI
        obtain ⟨fn, tmps, assign, body, hy, hR⟩ := HY.out _ (hJ _ _ _ HJs.out (pw_below_drewN (Below.refl _ wr) nq))
        have HR := Aside0.mk hR
        clear hR
        gi_wp2
        refine HR.out.mono ?_
        rintro e W3 (⟨rfl, hJ3, hk3⟩ | ⟨rfl, hJx3⟩)
        · as_aux_lemma =>
          have hBn3 : W3.cell? ⟨Bn, 0, none⟩ = some (.int .i64 m) := (((pw_below_drewN HBw.out _).trans hk3).cell (World.block_lt_of_cell? w0 _ hBn)).trans hBn
          have HJ3 := Aside0.mk hJ3
          have HK3 := Aside0.mk hk3
          clear hJ3 hk3
          gi_wp2
          go_roundw
          case rel =>
            as_aux_lemma =>
            exact ⟨i + m, by congr 1; rw [K8.out]; omega, ⟨HJ3.out, (pw_below_drewN HBw.out _).trans HK3.out⟩⟩
          case measure =>
            exact chunk_measure (by have := HQ.out; omega) hm K8.out
        · as_aux_lemma =>
          gi_wp2
          refine bodyPost_ret (results_none rfl _ _ _) rfl ?_
          exact ⟨⟨_, rfl⟩, .inr ⟨_, hJx3⟩⟩)
    · have c4b0 : decide ((i : Int) < (len : Int)) = false := decide_eq_false (by omega)
      have n3 : (i < len) = False := eq_false hlt
      gi_wp2
      go_end0
      exact ⟨⟨_, rfl⟩, .inl ⟨i, by omega, hJs⟩⟩
end Go.Proofs.Ytplngfammfdemaa
end
section
namespace Go.Proofs.Ytplngfammfdemaa
open Go.RowKit Go.Shelf Go.Proofs.YtplngfammfdemaaW.PrintWords Go.Proofs.YtplngfammfdemaaW.PrintLast Go.Proofs.YtplngfammfdemaaW.PrintMore
attribute [local go_sem] Oper.semAt_some
set_option linter.unusedVariables false
set_option linter.unusedSimpArgs false
theorem info22 : ∃ i, Try.prog.info? 22 = some i ∧ i.zero = some (.slice none 0 0) ∧ i.size = 1 ∧ i.bytes = 24 := by
  obtain ⟨i, hi, h1, h2, h3⟩ := info_parts (show (Try.prog.info? 22).map (fun i => (i.zero, i.size, i.bytes)) = some (some (.slice none 0 0), 1, 24) by kernel_rfl)
  exact ⟨i, hi, h1, h2, h3⟩
/-- A row of the call's own lies in no box of another type. -/
theorem row_ne {W : World} {base : Nat} {e : TypeId} {size : Nat} {v : Value} {n : Nat} {xs : List Value} (h : W.ownsRow base e size v n xs) {B : Nat} {o : Array Value} {t : TypeId} (hB : W.heap[B]? = some (.cells o t (0, 0))) (hne : e ≠ t) : v.ownBlock ≠ some B := by
  rcases h.2 with ⟨rfl, _⟩ | ⟨g, cap, cur, rfl, _, hg, _⟩
  · intro e'; cases e'
  · intro e'
    have : g = B := by simpa [Value.ownBlock] using e'
    subst this
    rw [hB] at hg
    cases hg
    exact hne rfl
theorem row_slice {W : World} {base : Nat} {e : TypeId} {size : Nat} {v : Value} {n : Nat} {xs : List Value} (h : W.ownsRow base e size v n xs) : ∃ A k c, v = .slice A k c := by
  rcases h.2 with ⟨rfl, _⟩ | ⟨g, cap, cur, rfl, _⟩ <;> exact ⟨_, _, _, rfl⟩
structure CollAt {α : Type} (w : World) (Bs : Nat) (enc : α → Value) (pre : List α) (W : World) : Prop where
  box : ∃ v, W.heap[Bs]? = some (.cells #[v] 121 (0, 0)) ∧ W.ownsRow w.heap.size 22 1 v pre.length (pre.map enc)
  below : Below w.heap.size w W
set_option maxRecDepth 100000 in
set_option maxHeartbeats 4000000 in
theorem appendSeq_in {α : Type} (ad : α → Option Addr) (ln cp : α → Nat) (n : Nat) (hn : 2 ≤ n) (gf : FuncId) (lb : Array Value) (eg : ∀ args w, (callFunc gf args).run Try.prog w = .ok (.enter gf args) w) (zs : List α) (Sp : List α → Prop) (N : Nat) (hN : N ≤ 1000) (w w0 : World) (hw0 : Below w0.heap.size w0 w)
    (hseq : SeqStopsK Fence.wide (n - 1) Try.prog gf lb (fun x : α => #[Value.slice (ad x) (ln x) (cp x)]) (Below w0.heap.size) (fun ys => ys = zs) Sp N w0) :
    CallsIn Fence.wide n Try.prog 121 #[.slice none 0 0, .func (.func gf) #[] lb] w fun e w' => ∃ v, e = .returned v ∧ w'.ownsRow w.heap.size 22 1 v zs.length (zs.map (fun x => Value.slice (ad x) (ln x) (cp x))) ∧ Below w.heap.size w w' := by
  obtain ⟨i0, hi, hz0, hz1, hz2⟩ := info22
  refine callsIn_of_wp_marks Try.func121 rfl trivial ?_ rfl
  simp only [Try.ntmps121, List.size_toArray, List.length_cons, List.length_nil, Nat.reduceAdd, Nat.reduceSub, Array.replicate_succ, Array.replicate_zero, List.push_toArray, List.append_toArray, List.nil_append, List.cons_append]
  gi_wp2
  obtain ⟨W0, hW0⟩ : ∃ W0, (w.alloc (Obj.cells #[Value.slice none 0 0] 121)) = W0 := ⟨_, rfl⟩
  have hB0 : Below w.heap.size w W0 := by rw [← hW0]; exact ((Below.refl _ w).alloc (Nat.le_refl _) _)
  have hs0 : W0.heap.size = w.heap.size + 1 := by rw [← hW0]; simp
  have hbox : W0.heap[w.heap.size]? = some (.cells #[Value.slice none 0 0] 121 (0, 0)) := by rw [← hW0]; exact blk_new w _
  rw [hW0]
  have hw1 : Below w0.heap.size w0 W0 := hw0.trans (hB0.mono hw0.size)
  have hle : w0.heap.size ≤ w.heap.size := hw0.size
  have h0 : CollAt w w.heap.size (fun x => Value.slice (ad x) (ln x) (cp x)) [] W0 := ⟨⟨_, hbox, World.ownsRow_nil _ _ _ _⟩, hB0⟩
  clear hW0
  refine wpIn_rangeFunc_ownH rfl (by omega) (gf := gf) (lb := lb) rfl trivial eg hseq belowK_t (belowK_b (by omega)) hw1 (fun _ => rfl)
    (fun pre W => CollAt w w.heap.size (fun x => Value.slice (ad x) (ln x) (cp x)) pre W)
    (fun _ _ _ => False)
    ?own
    (fun _ _ _ _ _ hs _ _ => hs)
    h0
    (fun x a' W => a' = { tmps := #[Value.slice none 0 0, Value.func (Fn.func gf) #[] lb, Value.pointer (some { block := w.heap.size, off := 0 }), undef, Value.slice none 0 0, Value.slice (ad x) (ln x) (cp x), Value.func (Fn.func gf) #[] lb, Value.slice (ad x) (ln x) (cp x), undef, undef, undef, undef, undef], defers := [] })
    ?ownx ?assign ?body ?done ?stop
  case own =>
    intro s A B row hs hg hr
    obtain ⟨⟨v, hb, ho⟩, hB⟩ := hs
    refine ⟨⟨v, ?_, ho.kept hg ?_⟩, ownFrom_below (Nat.le_refl _) (by omega) s A B row hB hg hr⟩
    · exact (hg.block _ (blk_lt hb) (fun e => by obtain ⟨_, o, h1, h2⟩ := hr _ e.symm; rw [hb] at h1; cases h1; cases h2)).trans hb
    · rcases ho.2 with ⟨rfl, _⟩ | ⟨g, cap, cur, rfl, _, hgb, _⟩
      · exact .inl rfl
      · refine .inr fun e => ?_
        obtain ⟨_, o, h1, h2⟩ := hr g e.symm
        rw [hgb] at h1; cases h1; cases h2
  case ownx =>
    rintro x a' s A B row h5 hg hr
    exact h5
  case assign =>
    rintro l pre x W K hI hK
    gi_wp2
    exact hK _ _ (KeepsFrom.refl _ _) (Below.refl _ _) hI rfl
  case body =>
    rintro l pre x a' W hl ⟨r, hr⟩ hI rfl hlt
    obtain ⟨⟨v, hb, ho⟩, hB⟩ := hI
    have hbs := blk_lt hb
    have y0 : W.cell? ⟨w.heap.size, 0, none⟩ = some v := (blk_cell hb 0).trans rfl
    have hne : v.ownBlock ≠ some w.heap.size := row_ne ho hb (by decide)
    have hbase : ∀ k, v.ownBlock = some k → w.heap.size ≤ k := fun k e => (ho.lt k e).1
    have hcells : ∀ (j : Nat) (o : Obj), v.ownBlock = some j → (W.alloc (.cells #[Value.slice (ad x) (ln x) (cp x)] 22)).heap[j]? = some o → o.isCells = true := by
      intro j o e ho'
      have hlt := (ho.lt j e).2
      rw [Below.heap_alloc _ _ _ hlt] at ho'
      rcases ho.2 with ⟨rfl, _⟩ | ⟨g, cap, cur, rfl, _, hg, _⟩
      · cases e
      · have : g = j := by simpa [Value.ownBlock] using e
        subst this
        rw [hg] at ho'
        cases ho'; rfl
    have HB := Aside0.mk hB
    have HBX := Aside0.mk hb
    have HL := Aside0.mk hlt
    clear hB hb hr hlt
    gi_wp2_with (gi_at_builtin; refine wpListIn_append_own _ rfl _ _ 121 rfl w.heap.size 22 i0 (.slice none 0 0) 1 24 Try.underlying121 hi hz0 hz1 hz2 rfl (by decide) v _ _ rfl (ho.alloc _) ⟨W.heap.size, 0, none⟩ 1 1 [Value.slice (ad x) (ln x) (cp x)] rfl rfl ?c1 ?c2 ?c3 ?c4 ?c5 ?_)
    case c1 =>
      intro j u hj
      match j, hj with
      | 0, hj =>
        rw [← Option.some.inj hj]
        exact (blk_cell (blk_new W _) 0).trans rfl
      | j + 1, hj => simp at hj
    case c2 => intro u hu; rw [List.mem_singleton.1 hu]; rfl
    case c3 => unfold maxLen; have := HL.out; omega
    case c4 => have := HL.out; omega
    case c5 => simp; omega
    intro v' w1 hown hgrow _
    obtain ⟨A', n', c', rfl⟩ := row_slice hown
    have hb1 : w1.heap[w.heap.size]? = some (.cells #[v] 121 (0, 0)) := (hgrow.block _ (by simp; omega) (fun e => hne e.symm)).trans (blk_alloc HBX.out _)
    have u0 := blk_frozen hb1 0
    have y1 : w1.cell? ⟨w.heap.size, 0, none⟩ = some v := (blk_cell hb1 0).trans rfl
    have HB1 := Aside0.mk hb1
    have HW1 := Aside0.mk hown
    have HG1 := Aside0.mk hgrow
    clear hb1 hown hgrow y0 ho
    gi_wp2
    have hne1 : (Value.slice A' n' c').ownBlock ≠ some w.heap.size := row_ne HW1.out HB1.out (by decide)
    have hb2 := blk_put HB1.out 0 (Value.slice A' n' c') rfl
    refine ⟨?_, ?_, ⟨⟨_, hb2, ?_⟩, ?_⟩⟩
    · exact (((KeepsOthers.alloc W _).trans (KeepsOthers.of_grownBy HG1.out hcells)).trans (KeepsOthers.setCell _ _ _)).from _
    · exact ((((Below.refl _ W).alloc (by omega) _).grown HG1.out (by simp; omega) (fun k e => by have := hbase k e; omega)).setCell (p := ⟨w.heap.size, 0, none⟩) (by show w0.heap.size ≤ w.heap.size; omega) _)
    · have := HW1.out.kept (grownBy_setCell' w1 w.heap.size (Value.slice A' n' c')) (.inr hne1)
      rw [List.length_append, List.map_append]
      exact this
    · exact (((HB.out.alloc (by omega) _).grown HG1.out (by simp; omega) (fun k e => hbase k e)).setCell (p := ⟨w.heap.size, 0, none⟩) (Nat.le_refl _) _)
  case done =>
    rintro D ys W hD rfl hI hK
    obtain ⟨⟨v, hb, ho⟩, hB⟩ := hI
    have y0 : W.cell? ⟨w.heap.size, 0, none⟩ = some v := (blk_cell hb 0).trans rfl
    have HO := Aside0.mk ho
    have HB := Aside0.mk hB
    clear ho hB hb
    gi_wp2
    refine ⟨by simp, .inl ⟨_, _, rfl, run_takeDeferred hK, ?_⟩⟩
    refine ⟨v, by simp [results, Try.results121, go_sem], v, rfl, ?_, ?_⟩
    · refine HO.out.kept (grownBy_putObj' W D _) ?_
      rcases HO.out.2 with ⟨rfl, _⟩ | ⟨g, cap, cur, rfl, _, hgb, _⟩
      · exact .inl rfl
      · refine .inr fun e => ?_
        have : g = D := by simpa [Value.ownBlock] using e
        subst this
        rw [hgb] at hK; cases hK
    · exact HB.out.trans (belowK_b (w := w) (Nat.le_refl _) _ D _ _ (by omega) hK rfl rfl)
  case stop =>
    rintro D c pre W _ _ h _
    exact h.elim
end Go.Proofs.Ytplngfammfdemaa
end
section
namespace Go.Proofs.Ytplngfammfdemaa
open Go.RowKit Go.Shelf Go.Proofs.YtplngfammfdemaaW.PrintWords Go.Proofs.YtplngfammfdemaaW.PrintLast Go.Proofs.YtplngfammfdemaaW.PrintMore
set_option linter.unusedVariables false
set_option linter.unusedSimpArgs false
def chunkAt (m : Nat) (l : List Int) (k : Nat) : List Int := (l.drop (k * m)).take m
def chunksN (m K : Nat) (l : List Int) : List (List Int) := (List.range K).map (chunkAt m l)
def startsN (m K : Nat) : List Nat := (List.range K).map (fun k => k * m)
theorem startsN_succ (m k : Nat) : startsN m (k + 1) = startsN m k ++ [k * m] := by simp [startsN, List.range_succ]
theorem startsN_length (m k : Nat) : (startsN m k).length = k := by simp [startsN]
theorem chunkAt_length (m : Nat) (l : List Int) (k : Nat) : (chunkAt m l k).length = Nat.min m (l.length - k * m) := by simp [chunkAt]
theorem abides_below' {α : Type} {B : Nat} {J : List α → World → Prop} (h : AbidesFrom B J) : ∀ s W W', J s W → Below W.heap.size W W' → J s W' := fun s W W' hs hb => h s W W' none hs (grown_of_below hb none) (fun r e => by cases e)
theorem chunk_stops (Bs Bn : Nat) (ad : Addr) (len c m K : Nat) (w0 : World) (hm : 1 ≤ m) (hm2 : m < 1000) (hlen : len < 1000000000000) (hc : len ≤ c) (hBs : w0.cell? ⟨Bs, 0, none⟩ = some (.slice (some ad) len c)) (hBn : w0.cell? ⟨Bn, 0, none⟩ = some (.int .i64 m)) (hK : len ≤ K * m) (hK2 : ∀ k, k < K → k * m < len) :
    SeqStopsK Fence.wide 4 Try.prog 122 #[.pointer (some ⟨Bs, 0, none⟩), .pointer (some ⟨Bn, 0, none⟩)] (fun i : Nat => #[.slice (some (ad.add i)) (Nat.min m (len - i)) (Nat.min m (len - i))]) (Below w0.heap.size) (fun ys => ys = startsN m K) (fun _ => True) K w0 := by
  intro l J Jx W hW hJ hJx hY h0
  refine (chunk1_in 4 (by omega) l Bs Bn ad len c m w0 hm hm2 hlen hc hBs hBn (fun i W => ∃ k, i = k * m ∧ k ≤ K ∧ J (startsN m k) W) (fun i W => ∃ pre, Jx pre W) ?_ ?_ W hW ⟨0, by simp, Nat.zero_le _, h0⟩).mono ?_
  · rintro i W1 W2 ⟨k, rfl, hk, h⟩ hb
    exact ⟨k, rfl, hk, abides_below' hJ _ _ _ h hb⟩
  · rintro i W1 ⟨k, rfl, hk, h⟩ hlt
    have hkK : k < K := by
      rcases Nat.lt_or_ge k K with h1 | h1
      · exact h1
      · have : k = K := by omega
        subst this
        omega
    obtain ⟨fn, tmps, assign, body, hy, hR⟩ := hY (startsN m k) (k * m) W1 h (by rw [startsN_length]; exact hkK)
    refine ⟨fn, tmps, assign, body, hy, hR.mono ?_⟩
    rintro e W2 (⟨rfl, hj, hb⟩ | ⟨rfl, hx⟩)
    · exact .inl ⟨rfl, ⟨k + 1, by rw [Nat.add_mul, Nat.one_mul], hkK, by rw [startsN_succ]; exact hj⟩, hb⟩
    · exact .inr ⟨rfl, _, hx⟩
  · rintro e W' ⟨he, ⟨i, hi, k, rfl, hk, h⟩ | ⟨i, pre, h⟩⟩
    · have : k = K := by
        rcases Nat.lt_or_ge k K with h1 | h1
        · have := hK2 k h1; omega
        · omega
      subst this
      exact ⟨he, .inl ⟨_, rfl, h⟩⟩
    · exact ⟨he, .inr ⟨pre, trivial, h⟩⟩
theorem chunk_any (A : Option Addr) (n c m : Nat) (hm : 1 ≤ m) (w : World) : Calls Try.prog 94 #[.slice A n c, .int .i64 (m : Int)] w fun e w' => e = .returned (.func (.func 122) #[] #[.pointer (some ⟨w.heap.size, 0, none⟩), .pointer (some ⟨w.heap.size + 1, 0, none⟩)]) ∧ w' = (w.alloc (.cells #[.slice A n c] 22)).alloc (.cells #[.int .i64 (m : Int)] 3) := by
  have h1 : decide ((m : Int) < 1) = false := decide_eq_false (by omega)
  go_enter Try.func94, Try.ntmps94
  go_wp2
  go_ret
  exact ⟨rfl, rfl⟩
abbrev kRows : Kd (List Int) := Kd.slice 3 (Kd.int .i64)
set_option maxHeartbeats 1000000 in
theorem collect_any (Bs Bn : Nat) (ad : Addr) (c m K : Nat) (l : List Int) (w : World) (hm : 1 ≤ m) (hm2 : m < 1000) (hlen : l.length < 1000000000000) (hc : l.length ≤ c) (hBs : w.cell? ⟨Bs, 0, none⟩ = some (.slice (some ad) l.length c)) (hBn : w.cell? ⟨Bn, 0, none⟩ = some (.int .i64 m)) (hC : Kd.C (Kd.int .i64) w (some ad) l.length l) (hK : l.length ≤ K * m) (hK2 : ∀ k, k < K → k * m < l.length) (hK3 : K ≤ 1000) :
    Calls Try.prog 93 #[.func (.func 122) #[] #[.pointer (some ⟨Bs, 0, none⟩), .pointer (some ⟨Bn, 0, none⟩)]] w fun e w' => ∃ A' c', e = .returned (.slice A' (chunksN m K l).length c') ∧ (chunksN m K l).length ≤ c' ∧ Kd.C kRows w' A' (chunksN m K l).length (chunksN m K l) ∧ Below w.heap.size w w' := by
  have HS := Aside0.mk (callsIn_wide.1 (appendSeq_in (fun i : Nat => some (ad.add i)) (fun i => Nat.min m (l.length - i)) (fun i => Nat.min m (l.length - i)) 5 (by omega) 122 #[.pointer (some ⟨Bs, 0, none⟩), .pointer (some ⟨Bn, 0, none⟩)] (enters_of Try.func122 (by kernel_rfl) rfl) (startsN m K) (fun _ => True) K hK3 w w (Below.refl _ _) (chunk_stops Bs Bn ad l.length c m K w hm hm2 hlen hc hBs hBn hK hK2)))
  have HC := Aside0.mk hC
  have HK2 := Aside0.mk hK2
  clear hBs hBn hC hK hK2 hK3 hlen hc
  go_enter Try.func93, Try.ntmps93
  go_wp2_with (go_at_call 121; refine HS.out.mono ?_; rintro e w1 ⟨v, rfl, ho, hb⟩; have HO := Aside0.mk ho; have HB := Aside0.mk hb; clear ho hb)
  go_ret
  have hn : (chunksN m K l).length = K := by simp [chunksN]
  have ho := HO.out
  rw [startsN_length] at ho
  have hreps : Reps (kRows.K w1) 1 (chunksN m K l) ((startsN m K).map (fun x => Value.slice (some (ad.add x)) (Nat.min m (l.length - x)) (Nat.min m (l.length - x)))) := by
    refine ⟨by simp [chunksN, startsN], fun j p hj => ?_⟩
    have hjK : j < K := by have := (List.getElem?_eq_some_iff.1 hj).1; rw [hn] at this; exact this
    have hp : p = chunkAt m l j := by
      have := hj
      simp only [chunksN, List.getElem?_map, List.getElem?_range hjK, Option.map_some, Option.some.injEq] at this
      exact this.symm
    subst hp
    refine ⟨some (ad.add (j * m)), Nat.min m (l.length - j * m), ?_, by rw [chunkAt_length]; exact Nat.le_refl _, ?_⟩
    · rw [Nat.mul_one, List.drop_eq_getElem_cons (by simp [startsN]; exact hjK)]
      simp only [List.take_succ_cons, List.take_zero, List.getElem_map, startsN, List.getElem_range]
      rw [chunkAt_length]
    · have h1 := Kd.C_drop (c := l.length + 1) (Kd.C_below HC.out HB.out) (m := j * m) (by have := HK2.out j hjK; omega) (by omega)
      rw [if_neg (by have := HK2.out j hjK; omega)] at h1
      have h2 := Kd.C_take h1 (m := Nat.min m (l.length - j * m)) (by rw [List.length_drop]; exact Nat.min_le_right _ _)
      have e : (l.drop (j * m)).take (Nat.min m (l.length - j * m)) = chunkAt m l j := by
        unfold chunkAt
        have : (l.drop (j * m)).length = l.length - j * m := List.length_drop
        rw [← this]
        simp only [Nat.min_def]
        split
        · rfl
        · rename_i h
          rw [List.take_length, List.take_of_length_le (by omega)]
      rw [e] at h2
      simpa [Kd.int, Kd.scalar, Addr.add] using h2
  obtain ⟨A', c', rfl, hr⟩ := own_reads_row ho hreps hn
  have hcap : K ≤ c' := by
    rcases ho.2 with ⟨h1, h2⟩ | ⟨g, cap, cur, h1, _, _, h2, _⟩
    · cases h1; omega
    · cases h1; exact h2
  refine ⟨A', c', by rw [hn]; rfl, by rw [hn]; exact hcap, ?_, HB.out⟩
  rw [hn]
  exact hr
theorem each_any (ad : Addr) (c : Nat) (l : List Int) (w : World) (hlen : l.length ≤ 1000) (h0 : 1 ≤ l.length) (hc : l.length ≤ c) (hC : Kd.C (Kd.int .i64) w (some ad) l.length l) :
    Calls Try.prog 90 #[.slice (some ad) l.length c] w fun e w' => ∃ A' c', e = .returned (.slice A' (chunksN 1 l.length l).length c') ∧ (chunksN 1 l.length l).length ≤ c' ∧ Kd.C kRows w' A' (chunksN 1 l.length l).length (chunksN 1 l.length l) ∧ Below w.heap.size w w' := by
  have HB1 := Aside0.mk (below_alloc (below_alloc (Below.refl w.heap.size w) (.cells #[.slice (some ad) l.length c] 22)) (.cells #[.int .i64 ((1 : Nat) : Int)] 3))
  have b1 := blk_alloc (blk_new w (.cells #[.slice (some ad) l.length c] 22)) (.cells #[.int .i64 ((1 : Nat) : Int)] 3)
  have b2 := blk_new (w.alloc (.cells #[.slice (some ad) l.length c] 22)) (.cells #[.int .i64 ((1 : Nat) : Int)] 3)
  rw [World.size_alloc] at b2
  have HS := Aside0.mk (collect_any w.heap.size (w.heap.size + 1) ad c 1 l.length l _ (Nat.le_refl _) (by omega) (by omega) hc ((blk_cell b1 0).trans rfl) ((blk_cell b2 0).trans rfl) (Kd.C_below hC HB1.out) (by omega) (fun k hk => by omega) hlen)
  have HC := Aside0.mk (chunk_any (some ad) l.length c 1 (Nat.le_refl _) w)
  clear b1 b2 hC hlen h0 hc
  generalize chunksN 1 l.length l = L at HS ⊢
  go_enter Try.func90, Try.ntmps90
  go_wp2_with (first | (go_at_call 94; refine HC.out.mono ?_; rintro e w1 ⟨rfl, rfl⟩) | (go_at_call 93; refine HS.out.mono ?_; rintro e w2 ⟨A', c', rfl, hc', hr, hb⟩; have HR := Aside0.mk hr; have HX := Aside0.mk hc'; have HB := Aside0.mk hb; clear hr hc' hb))
  go_ret
  exact ⟨A', c', rfl, HX.out, HR.out, below_step HB1.out HB.out⟩
end Go.Proofs.Ytplngfammfdemaa
end
section
namespace Go.Proofs.Ytplngfammfdemaa
open Go.RowKit Go.Shelf Go.Proofs.YtplngfammfdemaaW.PrintWords Go.Proofs.YtplngfammfdemaaW.PrintLast Go.Proofs.YtplngfammfdemaaW.PrintMore
set_option linter.unusedVariables false
set_option linter.unusedSimpArgs false
/-- A row of rows that is read. -/
def ShS (w : World) (v : Value) (xs : List (List Int)) : Prop := ∃ A c, v = .slice A xs.length c ∧ xs.length ≤ c ∧ Kd.C kRows w A xs.length xs
theorem ShS.value {w : World} {v : Value} {xs : List (List Int)} (h : ShS w v xs) : ∃ A c, v = .slice A xs.length c := by
  obtain ⟨A, c, h, _⟩ := h
  exact ⟨A, c, h⟩
theorem ShS.reads {w : World} {A : Option Addr} {n c : Nat} {xs : List (List Int)} (h : ShS w (.slice A n c) xs) : n = xs.length ∧ xs.length ≤ c ∧ Kd.C kRows w A xs.length xs := by
  obtain ⟨A', c', h, h1, h2⟩ := h
  cases h
  exact ⟨rfl, h1, h2⟩
theorem ShS.below {w w1 : World} {v : Value} {xs : List (List Int)} (h : ShS w v xs) (hb : Below w.heap.size w w1) : ShS w1 v xs := by
  obtain ⟨A, c, h, h1, h2⟩ := h
  exact ⟨A, c, h, h1, Kd.C_below h2 hb⟩
/-- Chunk's iterator, and what it hands over. -/
def ChS (w : World) (v : Value) (r : List (List Int)) : Prop := ∃ Bs Bn, v = .func (.func 122) #[] #[.pointer (some ⟨Bs, 0, none⟩), .pointer (some ⟨Bn, 0, none⟩)] ∧
  ∃ (ad : Addr) (c m K : Nat) (l : List Int), 1 ≤ m ∧ m < 1000 ∧ l.length < 1000000000000 ∧ l.length ≤ c ∧ w.cell? ⟨Bs, 0, none⟩ = some (.slice (some ad) l.length c) ∧ w.cell? ⟨Bn, 0, none⟩ = some (.int .i64 m) ∧ Kd.C (Kd.int .i64) w (some ad) l.length l ∧ l.length ≤ K * m ∧ (∀ k, k < K → k * m < l.length) ∧ K ≤ 1000 ∧ r = chunksN m K l
theorem ChS.value {w : World} {v : Value} {r : List (List Int)} (h : ChS w v r) : ∃ Bs Bn, v = .func (.func 122) #[] #[.pointer (some ⟨Bs, 0, none⟩), .pointer (some ⟨Bn, 0, none⟩)] := by
  obtain ⟨Bs, Bn, h, _⟩ := h
  exact ⟨Bs, Bn, h⟩
theorem ChS.below {w w1 : World} {v : Value} {r : List (List Int)} (h : ChS w v r) (hb : Below w.heap.size w w1) : ChS w1 v r := by
  obtain ⟨Bs, Bn, h, ad, c, m, K, l, h1, h2, h3, h4, h5, h6, h7, h8⟩ := h
  exact ⟨Bs, Bn, h, ad, c, m, K, l, h1, h2, h3, h4, pw_cell_below hb h5, pw_cell_below hb h6, Kd.C_below h7 hb, h8⟩
def slices_Collect_int.f (l : List (List Int)) : Option (List (List Int)) := some l
theorem slices_Collect_int.calls (Bs Bn : Nat) (l r : List (List Int)) (w : World) (hl : ChS w (.func (.func 122) #[] #[.pointer (some ⟨Bs, 0, none⟩), .pointer (some ⟨Bn, 0, none⟩)]) l) (_ht : True) (h : slices_Collect_int.f l = some r) :
    Calls Try.prog 93 #[.func (.func 122) #[] #[.pointer (some ⟨Bs, 0, none⟩), .pointer (some ⟨Bn, 0, none⟩)]] w fun e w' => ∃ v0_ : Value, e = .returned v0_ ∧ ShS w' v0_ r ∧ Below w.heap.size w w' := by
  obtain rfl := Option.some.inj h
  obtain ⟨Bs', Bn', he, ad, c, m, K, l', h1, h2, h3, h4, h5, h6, h7, h8, h9, h10, rfl⟩ := hl
  cases he
  refine (collect_any Bs Bn ad c m K l' w h1 h2 h3 h4 h5 h6 h7 h8 h9 h10).mono ?_
  rintro e w' ⟨A', c', rfl, hc, hr, hb⟩
  exact ⟨_, rfl, ⟨A', c', rfl, hc, hr⟩, hb⟩
/-- How many rows. -/
def rowsN (n m : Nat) : Nat := (n + m - 1) / m
theorem rowsN_le {n m : Nat} (hm : 1 ≤ m) : n ≤ rowsN n m * m := by
  unfold rowsN
  have := Nat.div_add_mod (n + m - 1) m
  have h2 := Nat.mod_lt (n + m - 1) (show 0 < m by omega)
  rw [Nat.mul_comm] at this
  omega
theorem rowsN_lt {n m k : Nat} (hm : 1 ≤ m) (h : k < rowsN n m) : k * m < n := by
  unfold rowsN at h
  have h1 : (k + 1) * m ≤ n + m - 1 := (Nat.le_div_iff_mul_le (show 0 < m by omega)).1 h
  rw [Nat.add_mul, Nat.one_mul] at h1
  omega
theorem rowsN_bd {n m : Nat} (hm : 1 ≤ m) (h : n ≤ 1000) : rowsN n m ≤ 1000 := by
  unfold rowsN
  rcases Nat.eq_zero_or_pos n with h0 | h0
  · subst h0
    rw [Nat.zero_add, Nat.div_eq_of_lt (by omega)]; omega
  · refine Nat.le_trans (Nat.div_le_of_le_mul ?_) h
    have : m + (n - 1) * 1 ≤ m * n := by
      have h3 : n - 1 + 1 = n := by omega
      have h2 : m * n = m * (n - 1) + m := by rw [← Nat.mul_succ]; congr 1; omega
      have : (n - 1) * 1 ≤ m * (n - 1) := by rw [Nat.mul_comm]; exact Nat.mul_le_mul_right _ hm
      omega
    omega
def slices_Chunk_int_int.f (l : List Int) (m : Int) : Option (List (List Int)) := if 1 ≤ l.length ∧ l.length ≤ 1000 ∧ 1 ≤ m ∧ m < 1000 then some (chunksN m.toNat (rowsN l.length m.toNat) l) else none
theorem slices_Chunk_int_int.calls (A1 : Option Addr) (c1 : Nat) (l1 : List Int) (a2 : Int) (r : List (List Int)) (w : World) (hr1 : Kd.C (Kd.int .i64) w A1 l1.length l1) (hc1 : l1.length ≤ c1) (h : slices_Chunk_int_int.f l1 a2 = some r) :
    Calls Try.prog 94 #[.slice A1 l1.length c1, .int .i64 a2] w fun e w' => ∃ v0_ : Value, e = .returned v0_ ∧ ChS w' v0_ r ∧ Below w.heap.size w w' := by
  unfold slices_Chunk_int_int.f at h
  split at h
  · rename_i hn
    obtain ⟨h1, h2, h3, h4⟩ := hn
    obtain ⟨m, rfl⟩ := Int.eq_ofNat_of_zero_le (show 0 ≤ a2 by omega)
    rw [Int.toNat_natCast] at h
    obtain rfl := Option.some.inj h
    obtain ⟨ad, rfl, _⟩ := at_i64 hr1 0 (by omega)
    refine (chunk_any (some ad) l1.length c1 m (by omega) w).mono ?_
    rintro e w' ⟨rfl, rfl⟩
    have HB1 := below_alloc (below_alloc (Below.refl w.heap.size w) (.cells #[.slice (some ad) l1.length c1] 22)) (.cells #[.int .i64 (m : Int)] 3)
    have b1 := blk_alloc (blk_new w (.cells #[.slice (some ad) l1.length c1] 22)) (.cells #[.int .i64 (m : Int)] 3)
    have b2 := blk_new (w.alloc (.cells #[.slice (some ad) l1.length c1] 22)) (.cells #[.int .i64 (m : Int)] 3)
    rw [World.size_alloc] at b2
    exact ⟨_, rfl, ⟨_, _, rfl, ad, c1, m, rowsN l1.length m, l1, by omega, by omega, by omega, hc1, (blk_cell b1 0).trans rfl, (blk_cell b2 0).trans rfl, Kd.C_below hr1 HB1, rowsN_le (by omega), fun k hk => rowsN_lt (by omega) hk, rowsN_bd (by omega) h2, rfl⟩, HB1⟩
  · cases h
def preset_each.f (l : List Int) : Option (List (List Int)) := if 1 ≤ l.length ∧ l.length ≤ 1000 then some (chunksN 1 l.length l) else none
theorem preset_each.calls (A1 : Option Addr) (c1 : Nat) (l1 : List Int) (r : List (List Int)) (w : World) (hr1 : Kd.C (Kd.int .i64) w A1 l1.length l1) (hc1 : l1.length ≤ c1) (h : preset_each.f l1 = some r) :
    Calls Try.prog 90 #[.slice A1 l1.length c1] w fun e w' => ∃ v0_ : Value, e = .returned v0_ ∧ ShS w' v0_ r ∧ Below w.heap.size w w' := by
  unfold preset_each.f at h
  split at h
  · rename_i hn
    obtain rfl := Option.some.inj h
    obtain ⟨ad, rfl, _⟩ := at_i64 hr1 0 (by omega)
    refine (each_any ad c1 l1 w hn.2 hn.1 hc1 hr1).mono ?_
    rintro e w' ⟨A', c', rfl, hc, hr, hb⟩
    exact ⟨_, rfl, ⟨A', c', rfl, hc, hr⟩, hb⟩
  · cases h
end Go.Proofs.Ytplngfammfdemaa
end
