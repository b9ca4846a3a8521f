-- A copy of the text YtplngfammfdemaaGInsert with what this claim does not reach left out (prune.py, a program of this project).
import Derived.Test.YtplngfammfdemaaZsGDelete
import Derived.Lib.Overlaps
import Derived.Lib.AppendZeros
import Derived.Lib.AppendZerosOnto
import Derived.Laws.Externs
namespace Go.Proofs.Ytplngfammfdemaa
open Go.RowKit Go.Proofs.YtplngfammfdemaaW.PrintWords Go.Proofs.YtplngfammfdemaaW.PrintLast Go.Proofs.YtplngfammfdemaaW.PrintMore P
set_option linter.unusedVariables false
set_option linter.unusedSimpArgs false
/-- copy as one step of a region that draws, its run known. -/
theorem step_copy_run {P : Program} {ops : Array Oper} {o : Oper} {a : Act} {w : World} {K : Act → World → Prop} {Q : Exit → Act → World → Prop} {E : Prop}
    (hg : o.guard = none) (d x : Operand) (dT sT : TypeId) (hop : o.op = Op.call { callee := Callee.builtin Builtin.copy, args := #[d, x], argTypes := #[dT, sT] })
    (v u : Value) (hd : a.eval d = v) (hx : a.eval x = u) {v' : Value} {w' : World} (hr : (Builtin.copy_ #[dT, sT] o.type #[v, u]).run P w = .ok v' w') (hK : K (a.put o.dst v') w') :
    if Region.wanted o (yielded ops a.tmps) = true then Oper.wp P o a w K Q else E := by
  have hw : Region.wanted o (yielded ops a.tmps) = true := by simp [Region.wanted, hg]
  rw [if_pos hw]
  unfold Oper.wp
  simp [execOp, hop, resolve, invoke, builtin, hd, hx, hr, Result.andThen]
  exact hK
theorem size48 : (Try.prog.info? 48).map (·.size) = some 4 := by
  obtain ⟨i0, hi0, hz0, hz1, hz2⟩ := info_parts info48
  rw [hi0]; simp [hz1]
theorem one_seat (x : S48) : ∀ v ∈ seatL x, v.oneCell' = true := by
  intro v hv
  simp only [seatL, List.mem_cons, List.not_mem_nil, or_false] at hv
  rcases hv with rfl | rfl | rfl | rfl <;> rfl
/-- What Insert leaves in place. -/
theorem shift_take (L : List Value) (l : List S48) (x : S48) (n i c : Nat) (hn : l.length = n) (hi : i < n) (hL : L.length = c * 4) (hc : n + 1 ≤ c) (ht : L.take (n * 4) = flatS l) :
    (splice (splice L ((i + 1) * 4) (flatS (l.drop i))) (i * 4) (seatL x)).take ((n + 1) * 4) = flatS (l.take i ++ x :: l.drop i) := by
  have hd : (flatS (l.drop i)).length = (n - i) * 4 := by rw [flatS_length, List.length_drop, hn]
  have h1 : (splice L ((i + 1) * 4) (flatS (l.drop i))).length = c * 4 := by rw [length_splice _ _ _ (by rw [hd]; omega), hL]
  have e2 : L.take (i * 4) = flatS (l.take i) := by
    rw [← flatS_take, ← ht, List.take_take]
    congr 1
    omega
  have hs : (seatL x).length = 4 := rfl
  have e3 : (splice L ((i + 1) * 4) (flatS (l.drop i))).take (i * 4) = flatS (l.take i) := by
    unfold splice
    rw [List.take_append_of_le_length (by rw [List.length_take, hL]; omega), List.take_take, ← e2]
    congr 1
    omega
  have e4 : (splice L ((i + 1) * 4) (flatS (l.drop i))).drop (i * 4 + (seatL x).length) = flatS (l.drop i) ++ L.drop ((i + 1) * 4 + (flatS (l.drop i)).length) := by
    unfold splice
    rw [hs, show i * 4 + 4 = (i + 1) * 4 by omega, List.drop_left' (by rw [List.length_take, hL]; omega)]
  rw [show splice (splice L ((i + 1) * 4) (flatS (l.drop i))) (i * 4) (seatL x) = (splice L ((i + 1) * 4) (flatS (l.drop i))).take (i * 4) ++ (seatL x ++ (splice L ((i + 1) * 4) (flatS (l.drop i))).drop (i * 4 + (seatL x).length)) from rfl, e3, e4]
  rw [flatS_append, ← List.append_assoc, ← List.append_assoc]
  rw [List.take_left' (by rw [List.length_append, List.length_append, flatS_length, List.length_take, hs, hd, hn]; omega)]
  rw [List.append_assoc]
  rfl
set_option maxHeartbeats 8000000 in
set_option maxRecDepth 100000 in
theorem insert_room (base g c n cv vb : Nat) (L V : List Value) (l : List S48) (x : S48) (i : Nat) (hn : l.length = n) (hi : i < n) (w : World) (hlen : n < 1000000000000000000) (hg : base ≤ g) (hb : base ≤ w.heap.size) (hG : w.heap[g]? = some (.cells L.toArray 48 (0, 0))) (hV : w.heap[vb]? = some (.cells V.toArray 48 (0, 0))) (hVt : V.take 4 = seatL x) (hvb : vb ≠ g) (hc : n + 1 ≤ c) (hm : c ≤ maxLen) (hL : L.length = c * 4) (ht : L.take (n * 4) = flatS l) :
    Calls Try.prog 69 #[.slice (some ⟨g, 0, none⟩) n c, .int .i64 (i : Int), .slice (some ⟨vb, 0, none⟩) 1 cv] w fun e w' => e = .returned (.slice (some ⟨g, 0, none⟩) (n + 1) c) ∧ Kd.R k48 48 w' base (fun k => k = g) (.slice (some ⟨g, 0, none⟩) (n + 1) c) (l.take i ++ x :: l.drop i) ∧ Below base w w' ∧ OnlyRow w w' g := by
  have hu45 := Try.underlying45
  have hdl : (flatS (l.drop i)).length = (n - i) * 4 := by rw [flatS_length, List.length_drop, hn]
  have hvl : V.length ≠ 0 := by
    intro h
    have : V.take 4 = [] := by rw [List.eq_nil_of_length_eq_zero h]; rfl
    rw [this] at hVt; cases hVt
  have hov : ∀ lb cb, (callFunc 107 #[.slice (some ⟨vb, 0, none⟩) 1 cv, .slice (some ⟨g, (i + 1) * 4, none⟩) lb cb]).run Try.prog w = .ok (.value (.bool false)) w := fun lb cb => by
    rw [run_callFunc_extern Try.func107 (by kernel_rfl) (by kernel_rfl) (by kernel_rfl) (e := Extern.SlicesOverlaps.overlaps #[45, 45] #[4]) (by kernel_rfl),
      Lib.run_overlaps_apart w 45 4 48 Try.underlying45 4 (fun w => by kernel_rfl) ⟨vb, 0, none⟩ ⟨g, (i + 1) * 4, none⟩ 1 cv lb cb hvb 48 48 V.length L.length (by unfold World.shape?; rw [hV]; rfl) (by unfold World.shape?; rw [hG]; rfl) (by omega) (blk_frozen hV _) (blk_frozen hV _)]
    rfl
  have hsrc1 : ∀ j v, (flatS (l.drop i))[j]? = some v → w.drew.cell? ((⟨g, i * 4, none⟩ : Addr).add j) = some v := by
    intro j u hj
    rw [addr_add, blk_cell (blk_drew hG), List.getElem?_toArray]
    rw [← flatS_drop, List.getElem?_drop, ← ht, List.getElem?_take] at hj
    split at hj
    · exact hj
    · cases hj
  obtain ⟨w1, hr1, hG1, hB1, hO1⟩ := run_copy_splice (P := Try.prog) w.drew 45 45 3 48 4 g ((i + 1) * 4) (n - i) (c - (i + 1)) ⟨g, i * 4, none⟩ (n + 1 - i) (c - i) L 48 (flatS (l.drop i)) Try.underlying45 size48 (blk_drew hG) (by rw [hdl, show Nat.min (n + 1 - i) (n - i) = n - i by simp only [Nat.min_def]; split <;> omega]) hsrc1 (by rw [hdl, hL]; omega) (one_flat _) base w (below_drew (Below.refl _ _)) hg
  rw [show Nat.min (n + 1 - i) (n - i) = n - i by simp only [Nat.min_def]; split <;> omega] at hr1
  have hs1 : (splice L ((i + 1) * 4) (flatS (l.drop i))).length = c * 4 := by rw [length_splice _ _ _ (by rw [hdl]; omega), hL]
  have hV1 : w1.heap[vb]? = some (.cells V.toArray 48 (0, 0)) := (hO1.2 vb (blk_lt (blk_drew hV)) hvb).trans (blk_drew hV)
  have hsrc2 : ∀ j v, (seatL x)[j]? = some v → w1.cell? ((⟨vb, 0, none⟩ : Addr).add j) = some v := by
    intro j u hj
    rw [addr_add, blk_cell hV1, List.getElem?_toArray, Nat.zero_add]
    rw [← hVt, List.getElem?_take] at hj
    split at hj
    · exact hj
    · cases hj
  obtain ⟨w2, hr2, hG2, hB2, hO2⟩ := run_copy_splice (P := Try.prog) w1 45 45 3 48 4 g (i * 4) (n + 1 - i) (c - i) ⟨vb, 0, none⟩ 1 cv _ 48 (seatL x) Try.underlying45 size48 hG1 (by rw [show Nat.min 1 (n + 1 - i) = 1 by simp only [Nat.min_def]; split <;> omega]; rfl) hsrc2 (by rw [hs1]; show i * 4 + 4 ≤ _; omega) (one_seat x) base w hB1 hg
  rw [show Nat.min 1 (n + 1 - i) = 1 by simp only [Nat.min_def]; split <;> omega] at hr2
  have hR := R_mkS (w := w2) (l := l.take i ++ x :: l.drop i) (c := c) hg hG2 (by simp; omega) hm (by rw [List.size_toArray, length_splice _ _ _ (by rw [hs1]; show i * 4 + 4 ≤ _; omega), hs1]) (by rw [List.toList_toArray, show (l.take i ++ x :: l.drop i).length = n + 1 by simp; omega]; exact shift_take L l x n i c hn hi hL hc ht)
  rw [show (l.take i ++ x :: l.drop i).length = n + 1 by simp; omega] at hR
  have HR := Aside0.mk hR
  have HB := Aside0.mk hB2
  have HO := Aside0.mk (((OnlyRow.drew w g).trans hO1).trans hO2)
  have n1 : ((i : Int) == (n : Int)) = false := beq_eq_false_iff_ne.2 (by omega)
  have n2 : decide ((c : Int) < (n : Int) + 1) = false := decide_eq_false (by omega)
  have m1 : (i : Int) ≤ (n : Int) := by omega
  have m2 : (0 : Int) ≤ (i : Int) := by omega
  have m3 : (n : Int) + 1 ≤ (c : Int) := by omega
  have m4 : (0 : Int) ≤ (n : Int) + 1 := by omega
  have m5 : (0 : Int) ≤ (i : Int) + 1 := by omega
  have m6 : (i : Int) + 1 ≤ (n : Int) + 1 := by omega
  have m7 : (c = i + 1) = False := eq_false (by omega)
  have m8 : (c = i) = False := eq_false (by omega)
  have m9 : (i : Int) ≤ (n : Int) + 1 := by omega
  clear hR hG1 hG2 hB1 hB2 hO1 hO2 hV1 hsrc1 hsrc2 hs1 hG hV hVt hvb hL ht hdl hvl hn
  go_enter Try.func69, Try.ntmps69
  go_wp2_with (simp only [hov])
  have k1 : IntKind.i64.wrap ((i : Int) + 1) = (i : Int) + 1 := by rw [IntKind.wrap_i64]; omega
  have k2 : ((i : Int) + 1).toNat = i + 1 := by omega
  go_region_law (refine step_copy_run rfl (.tmp 73) (.tmp 76) 45 45 rfl _ _ (by simp [Act.eval, Act.put]) (by simp [Act.eval, Act.put]) hr1 ?_)
  clear k1 k2
  go_wp2
  go_ret
  exact ⟨rfl, HR.out, HB.out, HO.out⟩
end Go.Proofs.Ytplngfammfdemaa
