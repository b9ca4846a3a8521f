-- Copies of the texts YtplngfammfdemaaUIns, YtplngfammfdemaaUDel, YtplngfammfdemaaURep, YtplngfammfdemaaURowT, YtplngfammfdemaaURepG with what this claim does not reach left out (prune.py, a program of this project).
import Derived.Test.YtplngfammfdemaaZyUFitW
import Derived.Lib.Overlaps
import Derived.Lib.AppendZeros
import Derived.Lib.AppendZerosOnto
import Derived.Laws.Externs
import Derived.Maps.AppendAt
section
namespace Go.Proofs.Ytplngfammfdemaa
open Go.RowKit Go.Proofs.YtplngfammfdemaaW.PrintWords Go.Proofs.YtplngfammfdemaaW.PrintLast Go.Proofs.YtplngfammfdemaaW.PrintMore Q
set_option linter.unusedVariables false
set_option linter.unusedSimpArgs false
theorem shift_take4 (L : List Value) (l : List (List Value)) (x : List Value) (hf4 : Four l) (hx : x.length = 4) (n i c : Nat) (hn : l.length = n) (hi : i < n) (hL : L.length = c * 4) (hc : n + 1 ≤ c) (ht : L.take (n * 4) = l.flatten) :
    (splice (splice L ((i + 1) * 4) (l.drop i).flatten) (i * 4) x).take ((n + 1) * 4) = (l.take i ++ x :: l.drop i).flatten := splice4_insert L l hf4 x hx n i c hn (by omega) hL hc ht
theorem grow_take4 (R : List Value) (l : List (List Value)) (x : List Value) (hf4 : Four l) (hx : x.length = 4) (n i c : Nat) (hn : l.length = n) (hi : i < n) (hR : R.length = c * 4) (hc : n + 1 ≤ c) (ht : R.take (i * 4) = (l.take i).flatten) :
    (splice (splice R (i * 4) x) ((i + 1) * 4) (l.drop i).flatten).take ((n + 1) * 4) = (l.take i ++ x :: l.drop i).flatten := by
  have h := splice4_new R l [x] hf4 (Four.cons hx (fun r hr => by cases hr)) n i i c hn (by omega) (by omega) hR (by simp; omega) ht
  simp only [List.flatten_cons, List.flatten_nil, List.append_nil, List.length_singleton] at h
  rw [show i + 1 + (n - i) = n + 1 by omega] at h
  exact h
set_option maxHeartbeats 8000000 in
set_option maxRecDepth 100000 in
theorem insert_room4 (base g c n cv vb : Nat) (L V : List Value) (l : List (List Value)) (x : List Value) (hf4 : Four l) (h1 : One l) (hx : x.length = 4) (hx1 : ∀ v ∈ x, v.oneCell' = true) (i : Nat) (hn : l.length = n) (hi : i < n) (w : World) (hlen : n < 1000000000000000000) (hg : base ≤ g) (hb : base ≤ w.heap.size) (hG : w.heap[g]? = some (.cells L.toArray 31 (0, 0))) (hV : w.heap[vb]? = some (.cells V.toArray 31 (0, 0))) (hVt : V.take 4 = x) (hvb : vb ≠ g) (hc : n + 1 ≤ c) (hm : c ≤ maxLen) (hL : L.length = c * 4) (ht : L.take (n * 4) = l.flatten) :
    Calls Try.prog 116 #[.slice (some ⟨g, 0, none⟩) n c, .int .i64 (i : Int), .slice (some ⟨vb, 0, none⟩) 1 cv] w fun e w' => ∃ cs : List Value, e = .returned (.slice (some ⟨g, 0, none⟩) (n + 1) c) ∧ w'.heap[g]? = some (.cells cs.toArray 31 (0, 0)) ∧ cs.length = c * 4 ∧ cs.take ((n + 1) * 4) = (l.take i ++ x :: l.drop i).flatten ∧ Below base w w' ∧ OnlyRow w w' g := by
  have hu29 := Try.underlying29
  have hdl : ((l.drop i).flatten).length = (n - i) * 4 := by rw [flat4_len _ (hf4.drop _), List.length_drop, hn]
  have hvl : V.length ≠ 0 := by
    intro h
    have : V.take 4 = [] := by rw [List.eq_nil_of_length_eq_zero h]; rfl
    rw [this] at hVt; rw [← hVt] at hx; cases hx
  have hov : ∀ lb cb, (callFunc 126 #[.slice (some ⟨vb, 0, none⟩) 1 cv, .slice (some ⟨g, (i + 1) * 4, none⟩) lb cb]).run Try.prog w = .ok (.value (.bool false)) w := fun lb cb => by
    rw [run_callFunc_extern Try.func126 (by kernel_rfl) (by kernel_rfl) (by kernel_rfl) (e := Extern.SlicesOverlaps.overlaps #[29, 29] #[4]) (by kernel_rfl),
      Lib.run_overlaps_apart w 29 4 31 Try.underlying29 4 (fun w => by kernel_rfl) ⟨vb, 0, none⟩ ⟨g, (i + 1) * 4, none⟩ 1 cv lb cb hvb 31 31 V.length L.length (by unfold World.shape?; rw [hV]; rfl) (by unfold World.shape?; rw [hG]; rfl) (by omega) (blk_frozen hV _) (blk_frozen hV _)]
    rfl
  have hsrc1 : ∀ j v, ((l.drop i).flatten)[j]? = some v → w.drew.cell? ((⟨g, i * 4, none⟩ : Addr).add j) = some v := by
    intro j u hj
    rw [addr_addU, blk_cell (blk_drew hG), List.getElem?_toArray]
    rw [← flat4_drop _ hf4, List.getElem?_drop, ← ht, List.getElem?_take] at hj
    split at hj
    · exact hj
    · cases hj
  obtain ⟨w1, hr1, hG1, hB1, hO1⟩ := run_copy_splice (P := Try.prog) w.drew 29 29 3 31 4 g ((i + 1) * 4) (n - i) (c - (i + 1)) ⟨g, i * 4, none⟩ (n + 1 - i) (c - i) L 31 ((l.drop i).flatten) Try.underlying29 size31 (blk_drew hG) (by rw [hdl, show Nat.min (n + 1 - i) (n - i) = n - i by simp only [Nat.min_def]; split <;> omega]) hsrc1 (by rw [hdl, hL]; omega) ((h1.drop _).flat) base w (below_drew (Below.refl _ _)) hg
  rw [show Nat.min (n + 1 - i) (n - i) = n - i by simp only [Nat.min_def]; split <;> omega] at hr1
  have hs1 : (splice L ((i + 1) * 4) ((l.drop i).flatten)).length = c * 4 := by rw [length_splice _ _ _ (by rw [hdl]; omega), hL]
  have hV1 : w1.heap[vb]? = some (.cells V.toArray 31 (0, 0)) := (hO1.2 vb (blk_lt (blk_drew hV)) hvb).trans (blk_drew hV)
  have hsrc2 : ∀ j v, x[j]? = some v → w1.cell? ((⟨vb, 0, none⟩ : Addr).add j) = some v := by
    intro j u hj
    rw [addr_addU, blk_cell hV1, List.getElem?_toArray, Nat.zero_add]
    rw [← hVt, List.getElem?_take] at hj
    split at hj
    · exact hj
    · cases hj
  obtain ⟨w2, hr2, hG2, hB2, hO2⟩ := run_copy_splice (P := Try.prog) w1 29 29 3 31 4 g (i * 4) (n + 1 - i) (c - i) ⟨vb, 0, none⟩ 1 cv _ 31 x Try.underlying29 size31 hG1 (by rw [show Nat.min 1 (n + 1 - i) = 1 by simp only [Nat.min_def]; split <;> omega]; exact hx) hsrc2 (by rw [hs1, hx]; omega) hx1 base w hB1 hg
  rw [show Nat.min 1 (n + 1 - i) = 1 by simp only [Nat.min_def]; split <;> omega] at hr2
  have HR := Aside0.mk (shift_take4 L l x hf4 hx n i c hn hi hL hc ht)
  have HG := Aside0.mk hG2
  have HL := Aside0.mk (show (splice (splice L ((i + 1) * 4) (l.drop i).flatten) (i * 4) x).length = c * 4 by rw [length_splice _ _ _ (by rw [hs1, hx]; omega), hs1])
  have HB := Aside0.mk hB2
  have HO := Aside0.mk (((OnlyRow.drew w g).trans hO1).trans hO2)
  have n1 : ((i : Int) == (n : Int)) = false := beq_eq_false_iff_ne.2 (by omega)
  have n2 : decide ((c : Int) < (n : Int) + 1) = false := decide_eq_false (by omega)
  have m1 : (i : Int) ≤ (n : Int) := by omega
  have m2 : (0 : Int) ≤ (i : Int) := by omega
  have m3 : (n : Int) + 1 ≤ (c : Int) := by omega
  have m4 : (0 : Int) ≤ (n : Int) + 1 := by omega
  have m5 : (0 : Int) ≤ (i : Int) + 1 := by omega
  have m6 : (i : Int) + 1 ≤ (n : Int) + 1 := by omega
  have m7 : (c = i + 1) = False := eq_false (by omega)
  have m8 : (c = i) = False := eq_false (by omega)
  have m9 : (i : Int) ≤ (n : Int) + 1 := by omega
  clear hG1 hG2 hB1 hB2 hO1 hO2 hV1 hsrc1 hsrc2 hs1 hG hV hVt hvb hL ht hdl hvl hn
  go_enter Try.func116, Try.ntmps116
  go_wp2_with (simp only [hov])
  have k1 : IntKind.i64.wrap ((i : Int) + 1) = (i : Int) + 1 := by rw [IntKind.wrap_i64]; omega
  have k2 : ((i : Int) + 1).toNat = i + 1 := by omega
  go_region_law (refine step_copy_runU rfl (.tmp 73) (.tmp 76) 29 29 rfl _ _ (by simp [Act.eval, Act.put]) (by simp [Act.eval, Act.put]) hr1 ?_)
  clear k1 k2
  go_wp2
  go_ret
  exact ⟨_, rfl, HG.out, HL.out, HR.out, HB.out, HO.out⟩
set_option maxHeartbeats 8000000 in
set_option maxRecDepth 100000 in
theorem insert_end4 (base c n cv vb : Nat) (A : Option Addr) (V : List Value) (l : List (List Value)) (x : List Value) (hf4 : Four l) (h1 : One l) (hx : x.length = 4) (hx1 : ∀ v ∈ x, v.oneCell' = true) (hn : l.length = n) (w : World) (hlen : n < 1000000000000) (hb : base ≤ w.heap.size) (hown : w.ownsRow base 31 4 (.slice A n c) n (l.flatten)) (hV : w.heap[vb]? = some (.cells V.toArray 31 (0, 0))) (hVt : V.take 4 = x) (hcz : (n : Int) ≤ c) (hc0 : A = none → n = 0 ∧ c = 0) :
    Calls Try.prog 116 #[.slice A n c, .int .i64 (n : Int), .slice (some ⟨vb, 0, none⟩) 1 cv] w fun e w' => ∃ v', e = .returned v' ∧ w'.ownsRow base 31 4 v' (n + 1) (l.flatten ++ x) ∧ w.grownBy w' (Value.slice A n c).ownBlock ∧ (v'.ownBlock = (Value.slice A n c).ownBlock ∨ v'.ownBlock = some w.heap.size) := by
  have hu29 := Try.underlying29
  obtain ⟨i0, hi0, hz0, hz1, hz2⟩ := info_parts info31
  have HOWN := Aside0.mk hown
  have HV := Aside0.mk hV
  have hsrc : ∀ j v, x[j]? = some v → w.cell? ((⟨vb, 0, none⟩ : Addr).add j) = some v := by
    intro j u hj
    rw [addr_addU, blk_cell hV, List.getElem?_toArray, Nat.zero_add]
    rw [← hVt, List.getElem?_take] at hj
    split at hj
    · exact hj
    · cases hj
  have HS := Aside0.mk hsrc
  clear hown hV hsrc hVt hn
  have m2 : (0 : Int) ≤ (n : Int) := by omega
  have b1 : n + 1 ≤ maxLen := by unfold maxLen; omega
  have B1 := Aside0.mk b1
  have B2 : Aside0 ((n + 1) * 48 ≤ 140737488355328) := ⟨by omega⟩
  clear b1
  go_enter Try.func116, Try.ntmps116
  go_wp2_with (at_builtin; refine wpList_append_own_at _ rfl _ _ 29 rfl base 31 i0 (.agg #[.int .i64 0, .int .i64 0, .int .i64 0, .slice none 0 0]) 4 48 Try.underlying29 hi0 hz0 hz1 hz2 rfl (by decide) _ _ _ rfl HOWN.out ⟨vb, 0, none⟩ 1 cv x rfl (by rw [hx]) HS.out hx1 B1.out B2.out hb ?_; intro v' w1 hown' hgrow hq hat; have HO1 := Aside0.mk hown'; have HG1 := Aside0.mk hgrow; have HA1 := Aside0.mk hat; clear hown' hgrow hq hat)
  all_goals (go_ret; first | exact ⟨_, rfl, HO1.out, HG1.out, HA1.out⟩ | exact ⟨_, rfl, HO1.out, by cases A <;> exact HG1.out, by cases A <;> exact HA1.out⟩)
set_option maxHeartbeats 8000000 in
set_option maxRecDepth 100000 in
theorem insert_grow4 (base g n cv vb : Nat) (L V : List Value) (l : List (List Value)) (x : List Value) (hf4 : Four l) (h1 : One l) (hx : x.length = 4) (hx1 : ∀ v ∈ x, v.oneCell' = true) (i : Nat) (hn : l.length = n) (hi : i < n) (w : World) (hlen : n < 1000000000000) (hb : base ≤ w.heap.size) (hG : w.heap[g]? = some (.cells L.toArray 31 (0, 0))) (hV : w.heap[vb]? = some (.cells V.toArray 31 (0, 0))) (hVt : V.take 4 = x) (hL : L.length = n * 4) (ht : L.take (n * 4) = l.flatten) :
    Calls Try.prog 116 #[.slice (some ⟨g, 0, none⟩) n n, .int .i64 (i : Int), .slice (some ⟨vb, 0, none⟩) 1 cv] w fun e w' => ∃ G, ∃ cs : List Value, e = .returned (.slice (some ⟨w.heap.size, 0, none⟩) (n + 1) G) ∧ w'.heap[w.heap.size]? = some (.cells cs.toArray 31 (0, 0)) ∧ cs.length = G * 4 ∧ cs.take ((n + 1) * 4) = (l.take i ++ x :: l.drop i).flatten ∧ n + 1 ≤ G ∧ G ≤ maxLen ∧ Below w.heap.size w w' := by
  have hu29 := Try.underlying29
  obtain ⟨i0, hi0, hz0, hz1, hz2⟩ := info_parts info31
  have hdl : ((l.drop i).flatten).length = (n - i) * 4 := by rw [flat4_len _ (hf4.drop _), List.length_drop, hn]
  have hold : (Builtin.firstCells i0.size i (.slice (some ⟨g, 0, none⟩) i n)).run Try.prog w.drew = .ok ((l.take i).flatten).toArray w.drew := by
    rw [hz1]
    refine run_firstCells_some w.drew 4 i ⟨g, 0, none⟩ i n ((l.take i).flatten) (by rw [flat4_len _ (hf4.take _), List.length_take]; omega) (fun j v hj => ?_)
    rw [addr_addU, blk_cell (blk_drew hG), List.getElem?_toArray, Nat.zero_add]
    rw [← flat4_take _ hf4, ← ht, List.getElem?_take] at hj
    split at hj
    · rw [List.getElem?_take] at hj
      split at hj
      · exact hj
      · cases hj
    · cases hj
  have hap := Lib.run_append_grow_zeros (P := Try.prog) w 29 3 29 31 i0 _ .i64 .i64 Try.underlying29 Try.underlying3 hi0 hz0 (some ⟨g, 0, none⟩) i n ((l.take i).flatten) hold (n + 1 - i) (by omega) (by omega) (by omega) (by omega) (by rw [hz2]; omega) (by rw [hz2]; exact growslice_fits (by omega) (by omega))
  have hin : i + (n + 1 - i) = n + 1 := by omega
  rw [hin] at hap
  have hGc : n + 1 ≤ grownCap w (n + 1) n 31 := grownCap_ge _ _ _ _
  have hGm : grownCap w (n + 1) n 31 ≤ maxLen := grownCap_le_maxLen _ _ _ _ (by unfold maxLen; omega)
  generalize grownCap w (n + 1) n 31 = G at hap hGc hGm
  obtain ⟨R0, hR0, hRl, hRt⟩ : ∃ R0 : List Value, (((List.take i l).flatten).toArray ++ Builtin.zeroCells (Value.agg #[Value.int IntKind.i64 0, Value.int IntKind.i64 0, Value.int IntKind.i64 0, Value.slice none 0 0]).cells (n + 1 - i) ++ Builtin.zeroCells (Value.agg #[Value.int IntKind.i64 0, Value.int IntKind.i64 0, Value.int IntKind.i64 0, Value.slice none 0 0]).cells (G - (n + 1))) = R0.toArray ∧ R0.length = G * 4 ∧ R0.take (i * 4) = (l.take i).flatten := by
    refine ⟨(l.take i).flatten ++ ((Builtin.zeroCells (Value.agg #[Value.int IntKind.i64 0, Value.int IntKind.i64 0, Value.int IntKind.i64 0, Value.slice none 0 0]).cells (n + 1 - i)).toList ++ (Builtin.zeroCells (Value.agg #[Value.int IntKind.i64 0, Value.int IntKind.i64 0, Value.int IntKind.i64 0, Value.slice none 0 0]).cells (G - (n + 1))).toList), ?_, ?_, ?_⟩
    · apply Array.ext'
      simp
    · rw [List.length_append, List.length_append, flat4_len _ (hf4.take _), List.length_take, Array.length_toList (xs := Builtin.zeroCells _ (n + 1 - i)), Array.length_toList (xs := Builtin.zeroCells _ (G - (n + 1))), size_zeroCells, size_zeroCells]
      show _ + (_ * 4 + _ * 4) = _
      omega
    · rw [List.take_left' (by rw [flat4_len _ (hf4.take _), List.length_take]; omega)]
  rw [hR0] at hap
  clear hR0 hold
  have hG0 : (w.drew.alloc (.cells R0.toArray 31)).heap[w.heap.size]? = some (.cells R0.toArray 31 (0, 0)) := blk_new w.drew _
  have hB0 : Below w.heap.size w (w.drew.alloc (.cells R0.toArray 31)) := (below_drew (Below.refl _ w)).alloc (Nat.le_refl _) _
  have hsz0 : w.heap.size < (w.drew.alloc (.cells R0.toArray 31)).heap.size := blk_lt hG0
  generalize w.drew.alloc (.cells R0.toArray 31) = w1 at hap hG0 hB0 hsz0
  have hgw := blk_lt hG
  have hvw := blk_lt hV
  have hG1 := blk_below hG hB0
  have hV1 := blk_below hV hB0
  have hsrc1 : ∀ j v, x[j]? = some v → w1.cell? ((⟨vb, 0, none⟩ : Addr).add j) = some v := by
    intro j u hj
    rw [addr_addU, blk_cell hV1, List.getElem?_toArray, Nat.zero_add]
    rw [← hVt, List.getElem?_take] at hj
    split at hj
    · exact hj
    · cases hj
  obtain ⟨w2, hr2, hG2, hB2, hO2⟩ := run_copy_splice (P := Try.prog) w1 29 29 3 31 4 w.heap.size (i * 4) (n + 1 - i) (G - i) ⟨vb, 0, none⟩ 1 cv R0 31 x Try.underlying29 size31 hG0 (by rw [show Nat.min 1 (n + 1 - i) = 1 by simp only [Nat.min_def]; split <;> omega]; exact hx) hsrc1 (by rw [hRl, hx]; omega) hx1 w.heap.size w hB0 (Nat.le_refl _)
  rw [show Nat.min 1 (n + 1 - i) = 1 by simp only [Nat.min_def]; split <;> omega] at hr2
  have hs2 : (splice R0 (i * 4) x).length = G * 4 := by rw [length_splice _ _ _ (by rw [hRl, hx]; omega), hRl]
  have hg2 : w2.heap[g]? = some (.cells L.toArray 31 (0, 0)) := blk_below hG hB2
  have hsrc2 : ∀ j v, ((l.drop i).flatten)[j]? = some v → w2.drew.cell? ((⟨g, i * 4, none⟩ : Addr).add j) = some v := by
    intro j u hj
    rw [addr_addU, blk_cell (blk_drew hg2), List.getElem?_toArray]
    rw [← flat4_drop _ hf4, List.getElem?_drop, ← ht, List.getElem?_take] at hj
    split at hj
    · exact hj
    · cases hj
  obtain ⟨w3, hr3, hG3, hB3, hO3⟩ := run_copy_splice (P := Try.prog) w2.drew 29 29 3 31 4 w.heap.size ((i + 1) * 4) (n - i) (G - (i + 1)) ⟨g, i * 4, none⟩ (n - i) (n - i) _ 31 ((l.drop i).flatten) Try.underlying29 size31 (blk_drew hG2) (by rw [hdl, show Nat.min (n - i) (n - i) = n - i from Nat.min_self _]) hsrc2 (by rw [hdl, hs2]; omega) ((h1.drop _).flat) w.heap.size w (below_drew hB2) (Nat.le_refl _)
  rw [show Nat.min (n - i) (n - i) = n - i from Nat.min_self _] at hr3
  have HR := Aside0.mk (grow_take4 R0 l x hf4 hx n i G hn hi hRl hGc hRt)
  have HG := Aside0.mk hG3
  have HL := Aside0.mk (show (splice (splice R0 (i * 4) x) ((i + 1) * 4) (l.drop i).flatten).length = G * 4 by rw [length_splice _ _ _ (by rw [hs2, hdl]; omega), hs2])
  have HGc := Aside0.mk hGc
  have HGm := Aside0.mk hGm
  have HB := Aside0.mk hB3
  have n1 : ((i : Int) == (n : Int)) = false := beq_eq_false_iff_ne.2 (by omega)
  have n2 : decide ((n : Int) < (n : Int) + 1) = true := decide_eq_true (by omega)
  have m1 : (i : Int) ≤ (n : Int) := by omega
  have m2 : (0 : Int) ≤ (i : Int) := by omega
  have m3 : (n : Int) + 1 ≤ (G : Int) := by omega
  have m4 : (0 : Int) ≤ (n : Int) + 1 := by omega
  have m5 : (0 : Int) ≤ (i : Int) + 1 := by omega
  have m6 : (i : Int) + 1 ≤ (n : Int) + 1 := by omega
  have m7 : (G = i + 1) = False := eq_false (by omega)
  have m8 : (G = i) = False := eq_false (by omega)
  have m9 : (i : Int) ≤ (n : Int) + 1 := by omega
  have m10 : (n = i) = False := eq_false (by omega)
  have hcast : (n : Int) + 1 - (i : Int) = ((n + 1 - i : Nat) : Int) := by omega
  rw [← hcast] at hap
  clear hcast hG0 hG2 hG3 hB0 hB2 hB3 hO2 hO3 hsrc1 hsrc2 hs2 hG hG1 hV hV1 hVt hL ht hdl hn hRl hRt hGc hGm hg2 hsz0 hgw hvw hz0 hz1 hz2 hi0 hin
  go_enter Try.func116, Try.ntmps116
  go_wp2_with (at_builtin; refine Lib.wpList_append_run _ rfl _ _ _ _ rfl _ _ rfl rfl _ _ hap ?_)
  have k1 : IntKind.i64.wrap ((i : Int) + 1) = (i : Int) + 1 := by rw [IntKind.wrap_i64]; omega
  have k2 : ((i : Int) + 1).toNat = i + 1 := by omega
  go_region_law (refine step_copy_runU rfl (.tmp 50) (.tmp 53) 29 29 rfl _ _ (by simp [Act.eval, Act.put]) (by simp [Act.eval, Act.put]) hr3 ?_)
  clear k1 k2
  go_wp2
  go_ret
  exact ⟨_, _, rfl, HG.out, HL.out, HR.out, HGc.out, HGm.out, HB.out⟩
end Go.Proofs.Ytplngfammfdemaa
end
section
namespace Go.Proofs.Ytplngfammfdemaa
open Go.RowKit Go.Proofs.YtplngfammfdemaaW.PrintWords Go.Proofs.YtplngfammfdemaaW.PrintLast Go.Proofs.YtplngfammfdemaaW.PrintMore Q
set_option linter.unusedVariables false
set_option linter.unusedSimpArgs false
set_option maxHeartbeats 8000000 in
set_option maxRecDepth 100000 in
theorem delete_far4 (base g c m : Nat) (L : List Value) (l : List (List Value)) (hf4 : Four l) (h1 : One l) (i : Nat) (hn : l.length = m + 1) (hi : i ≤ m) (hci : c ≠ i + 1) (w : World) (hlen : m < 1000000000000000000) (hg : base ≤ g) (hb : base ≤ w.heap.size) (hG : w.heap[g]? = some (.cells L.toArray 31 (0, 0))) (hc : m + 1 ≤ c) (hm : c ≤ maxLen) (hL : L.length = c * 4) (ht : L.take ((m + 1) * 4) = l.flatten) :
    Calls Try.prog 113 #[.slice (some ⟨g, 0, none⟩) (m + 1) c, .int .i64 (i : Int), .int .i64 ((i + 1 : Nat) : Int)] w fun e w' => ∃ cs : List Value, e = .returned (.slice (some ⟨g, 0, none⟩) m c) ∧ w'.heap[g]? = some (.cells cs.toArray 31 (0, 0)) ∧ cs.length = c * 4 ∧ cs.take (m * 4) = (l.take i ++ l.drop (i + 1)).flatten ∧ Below base w w' ∧ OnlyRow w w' g := by
  obtain ⟨i0, hi0, hz0, hz1, hz2⟩ := info_parts info31
  have hu29 := Try.underlying29
  have n1 : ((i : Int) == ((i + 1 : Nat) : Int)) = false := beq_eq_false_iff_ne.2 (by omega)
  have m1 : (i : Int) ≤ ((i + 1 : Nat) : Int) := by omega
  have m2 : ((i + 1 : Nat) : Int) ≤ ((m + 1 : Nat) : Int) := by omega
  have m3 : ((m + 1 : Nat) : Int) ≤ (c : Int) := by omega
  have m4 : (0 : Int) ≤ (i : Int) := by omega
  have m5 : (0 : Int) ≤ ((i + 1 : Nat) : Int) := by omega
  have m6 : (i : Int) ≤ (c : Int) := by omega
  have HN := Aside0.mk hn
  have HT := Aside0.mk ht
  clear hn ht
  go_enter Try.func113, Try.ntmps113
  go_wp2
  have hcl : ((l.drop (i + 1)).flatten).length = (m - i) * 4 := by rw [flat4_len _ (hf4.drop _), List.length_drop, HN.out]; congr 1; omega
  have hsp : ∀ j, j < ((l.drop (i + 1)).flatten).length → (w.cell? ⟨g, 0 + i * 4 + j, none⟩).isSome = true ∧ w.frozen? ⟨g, 0 + i * 4 + j, none⟩ = false := by
    intro j hj
    refine ⟨?_, blk_frozen hG _⟩
    rw [blk_cell hG, List.getElem?_toArray, List.getElem?_eq_getElem (by rw [hcl] at hj; omega)]
    rfl
  have hcs : ∀ j u, ((l.drop (i + 1)).flatten)[j]? = some u → w.cell? ((⟨g, (i + 1) * 4, none⟩ : Addr).add j) = some u := by
    intro j u hj
    rw [addr_addU, blk_cell hG, List.getElem?_toArray]
    have hjl : j < ((l.drop (i + 1)).flatten).length := (List.getElem?_eq_some_iff.1 hj).1
    rw [← flat4_drop _ hf4, List.getElem?_drop, ← HT.out, List.getElem?_take] at hj
    split at hj
    · exact hj
    · cases hj
  have k1 : (0 : Int) ≤ (i : Int) + 1 := by omega
  have k2 : (i : Int) + 1 ≤ (m : Int) + 1 := by omega
  have k3 : (c = i + 1) = False := eq_false (by omega)
  have k4 : m + 1 - (i + 1) = m - i := by omega
  go_region_law (refine step_append_room rfl (.tmp 22) (.tmp 25) 29 rfl 31 i0 4 Try.underlying29 hi0 hz1 g 0 i c rfl ⟨g, (i + 1) * 4, none⟩ (m - i) (c - (i + 1)) ((l.drop (i + 1)).flatten) rfl hcl hcs ((h1.drop _).flat) (by omega) hsp ?_)
  have hG4 := blk_setCellsU (t := 31) ((l.drop (i + 1)).flatten) (0 + i * 4) w.drew L (blk_drew hG) (by rw [hcl, hL]; omega)
  have hB4 := below_setCellsU hg ((l.drop (i + 1)).flatten) (0 + i * 4) w.drew (below_drew (Below.refl base w))
  have hs4 : (splice L (i * 4) ((l.drop (i + 1)).flatten)).length = c * 4 := by rw [length_splice _ _ _ (by rw [hcl]; omega), hL]
  have hO4 := (OnlyRow.drew w g).trans (OnlyRow.setCells g ((l.drop (i + 1)).flatten) (0 + i * 4) w.drew)
  rw [Nat.zero_add] at hG4 hB4 hO4
  try rw [show i + (m - i) = m by omega]
  generalize w.drew.setCells g (i * 4) ((l.drop (i + 1)).flatten) = w4 at hG4 hB4 hO4 ⊢
  have hz31 : ∀ w, (zeroValue 31).run Try.prog w = .ok (.agg #[.int .i64 0, .int .i64 0, .int .i64 0, .slice none 0 0]) w := fun w => by kernel_rfl
  have k5 : (c = m) = False := eq_false (by omega)
  have k6 : (m : Int) + 1 ≤ (c : Int) := by omega
  have k7 : (0 : Int) ≤ (m : Int) := by omega
  have k8 : (m : Int) ≤ (c : Int) := by omega
  have k9 : (m : Int) ≤ (m : Int) + 1 := by omega
  obtain ⟨w5, hclr, hG5, hB5, hO5⟩ := run_clear_splice (P := Try.prog) w4 29 0 31 (.agg #[.int .i64 0, .int .i64 0, .int .i64 0, .slice none 0 0]) g (m * 4) 1 (c - m) _ 31 [.int .i64 0, .int .i64 0, .int .i64 0, .slice none 0 0] Try.underlying29 hz31 (by decide) hG4 (by kernel_rfl) (by rw [hs4]; show m * 4 + 4 ≤ _; omega) (by decide) base w hB4 hg
  have HG5 := Aside0.mk hG5
  have HB5 := Aside0.mk hB5
  have HO5 := Aside0.mk (hO4.trans hO5)
  clear hG4 hB4 hcs hsp hcl k1 k2 k3 k4 n1 m1 m2 m3 m4 m5 m6 hG5 hB5 hO4 hO5
  have HS4 := Aside0.mk hs4
  clear hs4
  go_wp2
  go_ret
  exact ⟨_, rfl, HG5.out, by rw [length_splice _ _ _ (by rw [HS4.out]; show m * 4 + 4 ≤ _; omega), HS4.out], splice4_delete L l hf4 m i c HN.out (by omega) hL hc HT.out _ rfl, HB5.out, HO5.out⟩
set_option maxHeartbeats 8000000 in
set_option maxRecDepth 100000 in
theorem delete_near4 (base g m : Nat) (L : List Value) (l : List (List Value)) (hf4 : Four l) (h1 : One l) (hn : l.length = m + 1) (w : World) (hlen : m < 1000000000000000000) (hg : base ≤ g) (hb : base ≤ w.heap.size) (hG : w.heap[g]? = some (.cells L.toArray 31 (0, 0))) (hm : m + 1 ≤ maxLen) (hL : L.length = (m + 1) * 4) (ht : L.take ((m + 1) * 4) = l.flatten) :
    Calls Try.prog 113 #[.slice (some ⟨g, 0, none⟩) (m + 1) (m + 1), .int .i64 (m : Int), .int .i64 ((m + 1 : Nat) : Int)] w fun e w' => ∃ cs : List Value, e = .returned (.slice (some ⟨g, 0, none⟩) m (m + 1)) ∧ w'.heap[g]? = some (.cells cs.toArray 31 (0, 0)) ∧ cs.length = (m + 1) * 4 ∧ cs.take (m * 4) = (l.take m ++ l.drop (m + 1)).flatten ∧ Below base w w' ∧ OnlyRow w w' g := by
  obtain ⟨i0, hi0, hz0, hz1, hz2⟩ := info_parts info31
  have hu29 := Try.underlying29
  have n1 : ((m : Int) == ((m + 1 : Nat) : Int)) = false := beq_eq_false_iff_ne.2 (by omega)
  have m1 : (m : Int) ≤ ((m + 1 : Nat) : Int) := by omega
  have m2 : ((m + 1 : Nat) : Int) ≤ ((m + 1 : Nat) : Int) := by omega
  have m3 : ((m + 1 : Nat) : Int) ≤ ((m + 1) : Int) := by omega
  have m4 : (0 : Int) ≤ (m : Int) := by omega
  have m5 : (0 : Int) ≤ ((m + 1 : Nat) : Int) := by omega
  have m6 : (m : Int) ≤ ((m + 1) : Int) := by omega
  have HN := Aside0.mk hn
  have HT := Aside0.mk ht
  clear hn ht
  go_enter Try.func113, Try.ntmps113
  go_wp2
  have hcl : ((l.drop (m + 1)).flatten).length = (m - m) * 4 := by rw [flat4_len _ (hf4.drop _), List.length_drop, HN.out]; congr 1; omega
  have hsp : ∀ j, j < ((l.drop (m + 1)).flatten).length → (w.cell? ⟨g, 0 + m * 4 + j, none⟩).isSome = true ∧ w.frozen? ⟨g, 0 + m * 4 + j, none⟩ = false := by
    intro j hj
    refine ⟨?_, blk_frozen hG _⟩
    rw [blk_cell hG, List.getElem?_toArray, List.getElem?_eq_getElem (by rw [hcl] at hj; omega)]
    rfl
  have hnil : (l.drop (m + 1)).flatten = [] := List.eq_nil_of_length_eq_zero (by rw [hcl]; omega)
  have hcs : ∀ j u, ((l.drop (m + 1)).flatten)[j]? = some u → w.cell? ((⟨g, 0, none⟩ : Addr).add j) = some u := by
    intro j u hj
    rw [hnil] at hj
    simp at hj
  have hcl0 : ((l.drop (m + 1)).flatten).length = 0 * 4 := by rw [hcl]; omega
  clear hnil
  have k1 : (0 : Int) ≤ (m : Int) + 1 := by omega
  have k2 : (m : Int) + 1 ≤ (m : Int) + 1 := by omega
  have k4 : m + 1 - (m + 1) = m - m := by omega
  go_region_law (refine step_append_room rfl (.tmp 22) (.tmp 25) 29 rfl 31 i0 4 Try.underlying29 hi0 hz1 g 0 m (m + 1) rfl ⟨g, 0, none⟩ 0 0 ((l.drop (m + 1)).flatten) rfl hcl0 hcs ((h1.drop _).flat) (by omega) hsp ?_)
  have hG4 := blk_setCellsU (t := 31) ((l.drop (m + 1)).flatten) (0 + m * 4) w.drew L (blk_drew hG) (by rw [hcl, hL]; omega)
  have hB4 := below_setCellsU hg ((l.drop (m + 1)).flatten) (0 + m * 4) w.drew (below_drew (Below.refl base w))
  have hs4 : (splice L (m * 4) ((l.drop (m + 1)).flatten)).length = (m + 1) * 4 := by rw [length_splice _ _ _ (by rw [hcl]; omega), hL]
  have hO4 := (OnlyRow.drew w g).trans (OnlyRow.setCells g ((l.drop (m + 1)).flatten) (0 + m * 4) w.drew)
  rw [Nat.zero_add] at hG4 hB4 hO4
  try rw [show m + (m - m) = m by omega]
  generalize w.drew.setCells g (m * 4) ((l.drop (m + 1)).flatten) = w4 at hG4 hB4 hO4 ⊢
  have hz31 : ∀ w, (zeroValue 31).run Try.prog w = .ok (.agg #[.int .i64 0, .int .i64 0, .int .i64 0, .slice none 0 0]) w := fun w => by kernel_rfl
  have k6 : (m : Int) + 1 ≤ ((m + 1) : Int) := by omega
  have k7 : (0 : Int) ≤ (m : Int) := by omega
  have k8 : (m : Int) ≤ ((m + 1) : Int) := by omega
  have k9 : (m : Int) ≤ (m : Int) + 1 := by omega
  obtain ⟨w5, hclr, hG5, hB5, hO5⟩ := run_clear_splice (P := Try.prog) w4 29 0 31 (.agg #[.int .i64 0, .int .i64 0, .int .i64 0, .slice none 0 0]) g (m * 4) 1 1 _ 31 [.int .i64 0, .int .i64 0, .int .i64 0, .slice none 0 0] Try.underlying29 hz31 (by decide) hG4 (by kernel_rfl) (by rw [hs4]; show m * 4 + 4 ≤ _; omega) (by decide) base w hB4 hg
  have HG5 := Aside0.mk hG5
  have HB5 := Aside0.mk hB5
  have HO5 := Aside0.mk (hO4.trans hO5)
  clear hG4 hB4 hcs hsp hcl k1 k2 k4 n1 m1 m2 m3 m4 m5 m6 hG5 hB5 hO4 hO5
  have HS4 := Aside0.mk hs4
  clear hs4
  go_wp2
  go_ret
  exact ⟨_, rfl, HG5.out, by rw [length_splice _ _ _ (by rw [HS4.out]; show m * 4 + 4 ≤ _; omega), HS4.out], splice4_delete L l hf4 m m (m + 1) HN.out (by omega) hL (Nat.le_refl _) HT.out _ rfl, HB5.out, HO5.out⟩
theorem delete_any4 (base g c m : Nat) (L : List Value) (l : List (List Value)) (hf4 : Four l) (h1 : One l) (i : Nat) (hn : l.length = m + 1) (hi : i ≤ m) (w : World) (hlen : m < 1000000000000000000) (hg : base ≤ g) (hb : base ≤ w.heap.size) (hG : w.heap[g]? = some (.cells L.toArray 31 (0, 0))) (hc : m + 1 ≤ c) (hm : c ≤ maxLen) (hL : L.length = c * 4) (ht : L.take ((m + 1) * 4) = l.flatten) :
    Calls Try.prog 113 #[.slice (some ⟨g, 0, none⟩) (m + 1) c, .int .i64 (i : Int), .int .i64 ((i + 1 : Nat) : Int)] w fun e w' => ∃ cs : List Value, e = .returned (.slice (some ⟨g, 0, none⟩) m c) ∧ w'.heap[g]? = some (.cells cs.toArray 31 (0, 0)) ∧ cs.length = c * 4 ∧ cs.take (m * 4) = (l.take i ++ l.drop (i + 1)).flatten ∧ Below base w w' ∧ OnlyRow w w' g := by
  by_cases hci : c = i + 1
  · obtain rfl : i = m := by omega
    subst hci
    exact delete_near4 base g i L l hf4 h1 hn w hlen hg hb hG hm hL ht
  · exact delete_far4 base g c m L l hf4 h1 i hn hi hci w hlen hg hb hG hc hm hL ht
end Go.Proofs.Ytplngfammfdemaa
end
section
namespace Go.Proofs.Ytplngfammfdemaa
open Go.RowKit Go.Proofs.YtplngfammfdemaaW.PrintWords Go.Proofs.YtplngfammfdemaaW.PrintLast Go.Proofs.YtplngfammfdemaaW.PrintMore Q
set_option linter.unusedVariables false
set_option linter.unusedSimpArgs false
/-- A row of the call's own, behind what may have moved it. -/
def RowOut (w w' : World) (base g : Nat) (e : Ending) (N : Nat) (rows : List (List Value)) : Prop := ∃ g' cap, ∃ cs : List Value, e = .returned (.slice (some ⟨g', 0, none⟩) N cap) ∧ w'.heap[g']? = some (.cells cs.toArray 31 (0, 0)) ∧ cs.length = cap * 4 ∧ cs.take (N * 4) = rows.flatten ∧ N ≤ cap ∧ cap ≤ maxLen ∧ (g' = g ∨ w.heap.size ≤ g') ∧ OnlyRow w w' g ∧ Below base w w'
theorem own_open4 {w : World} {base n : Nat} {v : Value} {cs : List Value} (h : w.ownsRow base 31 4 v n cs) (hn : 0 < n) : ∃ g cap, ∃ cur : Array Value, v = .slice (some ⟨g, 0, none⟩) n cap ∧ base ≤ g ∧ w.heap[g]? = some (.cells cur 31 (0, 0)) ∧ n ≤ cap ∧ cap ≤ maxLen ∧ cur.size = cap * 4 ∧ cur.toList.take (n * 4) = cs := by
  rcases h.2 with ⟨_, h0⟩ | ⟨g, cap, cur, rfl, hb, hg, hnc, hcm, hsz, htk⟩
  · omega
  · exact ⟨g, cap, cur, rfl, hb, hg, hnc, hcm, hsz, htk⟩
set_option maxHeartbeats 8000000 in
set_option maxRecDepth 100000 in
theorem replace_end4 (base g c n m cv vb : Nat) (L V : List Value) (l v : List (List Value)) (hf4 : Four l) (h1 : One l) (hv4 : Four v) (hv1 : One v) (hn : l.length = n) (hm : v.length = m) (hm2 : 2 ≤ m) (i : Nat) (hi : n = i + 1) (w : World) (hlen : n ≤ 1000000) (hmlen : m ≤ 1000000) (hg : base ≤ g) (hb : base ≤ w.heap.size) (hG : w.heap[g]? = some (.cells L.toArray 31 (0, 0))) (hV : w.heap[vb]? = some (.cells V.toArray 31 (0, 0))) (hVt : V.take (m * 4) = v.flatten) (hvb : vb ≠ g) (hc : n ≤ c) (hcm : c ≤ maxLen) (hL : L.length = c * 4) (ht : L.take (n * 4) = l.flatten) :
    Calls Try.prog 112 #[.slice (some ⟨g, 0, none⟩) n c, .int .i64 (i : Int), .int .i64 ((i + 1 : Nat) : Int), .slice (some ⟨vb, 0, none⟩) m cv] w fun e w' => RowOut w w' base g e (i + m) (l.take i ++ v) := by
  have hu29 := Try.underlying29
  obtain ⟨i0, hi0, hz0, hz1, hz2⟩ := info_parts info31
  have hvl : v.flatten.length = m * 4 := by rw [flat4_len _ hv4, hm]
  have hsrcV : ∀ W : World, W.heap[vb]? = some (.cells V.toArray 31 (0, 0)) → ∀ j u, v.flatten[j]? = some u → W.cell? ((⟨vb, 0, none⟩ : Addr).add j) = some u := by
    intro W hW j u hj
    rw [addr_addU, blk_cell hW, List.getElem?_toArray, Nat.zero_add]
    rw [← hVt, List.getElem?_take] at hj
    split at hj
    · exact hj
    · cases hj
  have hown : w.ownsRow base 31 4 (.slice (some ⟨g, 0, none⟩) i c) i (l.take i).flatten := ⟨by rw [flat4_len _ (hf4.take _), List.length_take]; omega, .inr ⟨g, c, L.toArray, rfl, hg, hG, by omega, hcm, by simpa using hL, by rw [List.toList_toArray, ← flat4_take _ hf4, ← ht, List.take_take]; congr 1; omega⟩⟩
  have HOWN := Aside0.mk hown
  have HS := Aside0.mk (hsrcV w hV)
  have HVL := Aside0.mk hvl
  have HV1 := Aside0.mk hv1.flat
  have B1 : Aside0 (i + m ≤ maxLen) := ⟨by unfold maxLen; omega⟩
  have B2 : Aside0 ((i + m) * 48 ≤ 140737488355328) := ⟨by omega⟩
  have HF : Aside0 (((l.take i).flatten ++ v.flatten) = (l.take i ++ v).flatten) := ⟨by rw [List.flatten_append]⟩
  have n1 : ((i : Int) == ((i + 1 : Nat) : Int)) = false := beq_eq_false_iff_ne.2 (by omega)
  have n2 : (((i + 1 : Nat) : Int) == (n : Int)) = true := beq_iff_eq.2 (by omega)
  have n3 : decide (((i + m : Nat) : Int) < (n : Int)) = false := decide_eq_false (by omega)
  have n4 : decide ((i : Int) + (m : Int) < (n : Int)) = false := decide_eq_false (by omega)
  have m1 : (i : Int) ≤ ((i + 1 : Nat) : Int) := by omega
  have m2 : ((i + 1 : Nat) : Int) ≤ (c : Int) := by omega
  have m3 : (0 : Int) ≤ (i : Int) := by omega
  have m4 : (0 : Int) ≤ ((i + 1 : Nat) : Int) := by omega
  have m5 : (i : Int) ≤ (c : Int) := by omega
  have HM : Aside0 (0 < i + m) := ⟨by omega⟩
  clear hown hsrcV hvl hG hV hVt ht hL hn hm hf4 h1 hv4 hv1
  go_enter Try.func112, Try.ntmps112
  go_wp2_with (at_builtin; refine wpList_append_own_at _ rfl _ _ 29 rfl base 31 i0 (.agg #[.int .i64 0, .int .i64 0, .int .i64 0, .slice none 0 0]) 4 48 Try.underlying29 hi0 hz0 hz1 hz2 rfl (by decide) _ _ _ rfl HOWN.out ⟨vb, 0, none⟩ m cv v.flatten (by rfl) HVL.out HS.out HV1.out B1.out B2.out hb ?_; intro v' w1 hown' hgrow hq hat; obtain ⟨g', cap', cur', rfl, hb', hg', hnc, hcm', hsz, htk⟩ := own_open4 hown' HM.out; have HG1 : Aside0 (w.grownBy w1 (some g)) := Aside0.mk hgrow; have HA1 : Aside0 (some g' = some g ∨ some g' = some w.heap.size) := Aside0.mk hat; have HG' := Aside0.mk hg'; have HNC := Aside0.mk hnc; have HCM := Aside0.mk hcm'; have HSZ := Aside0.mk hsz; have HTK := Aside0.mk htk; clear hown' hgrow hq hat hb' hg' hnc hcm' hsz htk)
  go_ret
  refine ⟨g', cap', cur'.toList, rfl, by rw [Array.toArray_toList]; exact HG'.out, by simpa using HSZ.out, by rw [← HF.out]; exact HTK.out, HNC.out, HCM.out, ?_, ⟨HG1.out.size, fun j hj hne => HG1.out.block j hj (fun e => hne (Option.some.inj e))⟩, (Below.refl base w).grown HG1.out hb (fun k hk => by have := Option.some.inj hk; omega)⟩
  have := HA1.out
  simp only [Option.some.injEq] at this
  omega
set_option maxHeartbeats 8000000 in
set_option maxRecDepth 100000 in
theorem replace_room4 (base g c n m cv vb : Nat) (L V : List Value) (l v : List (List Value)) (hf4 : Four l) (h1 : One l) (hv4 : Four v) (hv1 : One v) (hn : l.length = n) (hm : v.length = m) (hm2 : 2 ≤ m) (i : Nat) (hi : i + 1 < n) (hr : i + m + (n - (i + 1)) ≤ c) (w : World) (hlen : n ≤ 1000000) (hmlen : m ≤ 1000000) (hg : base ≤ g) (hb : base ≤ w.heap.size) (hG : w.heap[g]? = some (.cells L.toArray 31 (0, 0))) (hV : w.heap[vb]? = some (.cells V.toArray 31 (0, 0))) (hVt : V.take (m * 4) = v.flatten) (hvb : vb ≠ g) (hc : n ≤ c) (hcm : c ≤ maxLen) (hL : L.length = c * 4) (ht : L.take (n * 4) = l.flatten) :
    Calls Try.prog 112 #[.slice (some ⟨g, 0, none⟩) n c, .int .i64 (i : Int), .int .i64 ((i + 1 : Nat) : Int), .slice (some ⟨vb, 0, none⟩) m cv] w fun e w' => RowOut w w' base g e (i + m + (n - (i + 1))) (l.take i ++ (v ++ l.drop (i + 1))) := by
  have hu29 := Try.underlying29
  have hvl : v.flatten.length = m * 4 := by rw [flat4_len _ hv4, hm]
  have hsrcV : ∀ W : World, W.heap[vb]? = some (.cells V.toArray 31 (0, 0)) → ∀ j u, v.flatten[j]? = some u → W.cell? ((⟨vb, 0, none⟩ : Addr).add j) = some u := by
    intro W hW j u hj
    rw [addr_addU, blk_cell hW, List.getElem?_toArray, Nat.zero_add]
    rw [← hVt, List.getElem?_take] at hj
    split at hj
    · exact hj
    · cases hj
  have hdl : ((l.drop (i + 1)).flatten).length = (n - (i + 1)) * 4 := by rw [flat4_len _ (hf4.drop _), List.length_drop, hn]
  have hsrcT : ∀ W : World, W.heap[g]? = some (.cells L.toArray 31 (0, 0)) → ∀ j u, ((l.drop (i + 1)).flatten)[j]? = some u → W.cell? ((⟨g, (i + 1) * 4, none⟩ : Addr).add j) = some u := by
    intro W hW j u hj
    rw [addr_addU, blk_cell hW, List.getElem?_toArray]
    rw [← flat4_drop _ hf4, List.getElem?_drop, ← ht, List.getElem?_take] at hj
    split at hj
    · exact hj
    · cases hj
  have hov : ∀ lb cb, (callFunc 126 #[.slice (some ⟨g, (i + m) * 4, none⟩) lb cb, .slice (some ⟨vb, 0, none⟩) m cv]).run Try.prog w.drew = .ok (.value (.bool false)) w.drew := fun lb cb => by
    have hvl2 : V.length ≠ 0 := by
      intro h
      have e : V.take (m * 4) = [] := by rw [List.eq_nil_of_length_eq_zero h]; simp
      rw [e] at hVt
      have := congrArg List.length hVt
      rw [hvl] at this
      simp at this
      omega
    rw [run_callFunc_extern Try.func126 (by kernel_rfl) (by kernel_rfl) (by kernel_rfl) (e := Extern.SlicesOverlaps.overlaps #[29, 29] #[4]) (by kernel_rfl),
      Lib.run_overlaps_apart w.drew 29 4 31 Try.underlying29 4 (fun w => by kernel_rfl) ⟨g, (i + m) * 4, none⟩ ⟨vb, 0, none⟩ lb cb m cv (Ne.symm hvb) 31 31 L.length V.length (by unfold World.shape?; rw [blk_drew hG]; rfl) (by unfold World.shape?; rw [blk_drew hV]; rfl) (by omega) (blk_frozen (blk_drew hG) _) (blk_frozen (blk_drew hG) _)]
    rfl
  obtain ⟨w1, hr1, hG1, hB1, hO1⟩ := run_copy_splice (P := Try.prog) w.drew.drew 29 29 3 31 4 g ((i + m) * 4) (n - (i + 1)) (c - (i + m)) ⟨g, (i + 1) * 4, none⟩ (n - (i + 1)) (c - (i + 1)) L 31 ((l.drop (i + 1)).flatten) Try.underlying29 size31 (blk_drew (blk_drew hG)) (by rw [hdl, show Nat.min (n - (i + 1)) (n - (i + 1)) = n - (i + 1) from Nat.min_self _]) (hsrcT _ (blk_drew (blk_drew hG))) (by rw [hdl, hL]; omega) ((h1.drop _).flat) base w (below_drew (below_drew (Below.refl _ _))) hg
  rw [show Nat.min (n - (i + 1)) (n - (i + 1)) = n - (i + 1) from Nat.min_self _] at hr1
  have hs1 : (splice L ((i + m) * 4) ((l.drop (i + 1)).flatten)).length = c * 4 := by rw [length_splice _ _ _ (by rw [hdl]; omega), hL]
  have hV1 : w1.heap[vb]? = some (.cells V.toArray 31 (0, 0)) := (hO1.2 vb (blk_lt (blk_drew (blk_drew hV))) hvb).trans (blk_drew (blk_drew hV))
  have hmin : Nat.min m (i + m + (n - (i + 1)) - i) = m := by simp only [Nat.min_def]; split <;> omega
  obtain ⟨w2, hr2, hG2, hB2, hO2⟩ := run_copy_splice (P := Try.prog) w1 29 29 3 31 4 g (i * 4) (i + m + (n - (i + 1)) - i) (c - i) ⟨vb, 0, none⟩ m cv _ 31 v.flatten Try.underlying29 size31 hG1 (by rw [hmin]; exact hvl) (hsrcV _ hV1) (by rw [hs1, hvl]; omega) hv1.flat base w hB1 hg
  rw [hmin] at hr2
  have hR := splice4_put L l v hf4 hv4 n i (i + 1) c hn (by omega) (by omega) hL (by rw [hm]; omega) ht
  rw [hm] at hR
  have HR := Aside0.mk hR
  clear hR
  have HG := Aside0.mk hG2
  have HL := Aside0.mk (show (splice (splice L ((i + m) * 4) (l.drop (i + 1)).flatten) (i * 4) v.flatten).length = c * 4 by rw [length_splice _ _ _ (by rw [hs1, hvl]; omega), hs1])
  have HB := Aside0.mk hB2
  have HO := Aside0.mk ((((OnlyRow.drew w g).trans (OnlyRow.drew _ g)).trans hO1).trans hO2)
  obtain ⟨q, hq⟩ : ∃ q, n = i + 1 + q + 1 := ⟨n - (i + 2), by omega⟩
  subst hq
  have e1 : i + 1 + q + 1 - (i + 1) = q + 1 := by omega
  have e2 : i + m + (q + 1) - i = m + q + 1 := by omega
  rw [e1] at hr1 hr2 HR ⊢
  rw [e2] at hr2
  have n1 : ((i : Int) == ((i + 1 : Nat) : Int)) = false := beq_eq_false_iff_ne.2 (by omega)
  have n2 : (((i + 1 : Nat) : Int) == ((i + 1 + q + 1 : Nat) : Int)) = false := beq_eq_false_iff_ne.2 (by omega)
  have n3 : decide ((c : Int) < (i : Int) + (m : Int) + ((q : Int) + 1)) = false := decide_eq_false (by omega)
  have n4 : decide ((i : Int) + (m : Int) ≤ (i : Int) + 1) = false := decide_eq_false (by omega)
  have m1 : (i : Int) ≤ (c : Int) := by omega
  have m2 : (0 : Int) ≤ (i : Int) := by omega
  have m3 : (0 : Int) ≤ (i : Int) + 1 := by omega
  have m4 : (i : Int) + 1 ≤ (i : Int) + 1 + (q : Int) + 1 := by omega
  have m5 : (i : Int) ≤ (i : Int) + 1 + (q : Int) + 1 := by omega
  have m6 : (i : Int) + (m : Int) + ((q : Int) + 1) ≤ (c : Int) := by omega
  have m7 : (0 : Int) ≤ (i : Int) + (m : Int) + ((q : Int) + 1) := by omega
  have m8 : (c = i + 1) = False := eq_false (by omega)
  have m9 : (c = i) = False := eq_false (by omega)
  have m10 : (c = i + m) = False := eq_false (by omega)
  have m11 : (i : Int) + (m : Int) ≤ (i : Int) + (m : Int) + ((q : Int) + 1) := by omega
  have m12 : (0 : Int) ≤ (i : Int) + (m : Int) := by omega
  have m13 : (i : Int) ≤ (i : Int) + (m : Int) + ((q : Int) + 1) := by omega
  have m14 : (i : Int) + 1 ≤ (c : Int) := by omega
  have m15 : (i : Int) ≤ (i : Int) + 1 := by omega
  have t1 : ((i : Int) + 1).toNat = i + 1 := by omega
  have t2 : ((i : Int) + (m : Int)).toNat = i + m := by omega
  have t3 : ((i : Int) + (m : Int) + ((q : Int) + 1)).toNat = i + m + (q + 1) := by omega
  have t4 : i + 1 + q + 1 - (i + 1) = q + 1 := by omega
  have t5 : IntKind.i64.wrap ((i : Int) + (m : Int)) = (i : Int) + (m : Int) := by rw [IntKind.wrap_i64]; omega
  have t6 : IntKind.i64.wrap ((i : Int) + (m : Int) + ((q : Int) + 1)) = (i : Int) + (m : Int) + ((q : Int) + 1) := by rw [IntKind.wrap_i64]; omega
  clear hG1 hG2 hB1 hB2 hO1 hO2 hV1 hsrcV hsrcT hs1 hG hV hVt hvb hL ht hdl hvl hn hm
  go_enter Try.func112, Try.ntmps112
  go_wp2_with (simp only [hov])
  go_region_law (refine step_copy_runU rfl (.tmp 126) (.tmp 129) 29 29 rfl _ _ (by simp [Act.eval, Act.put]) (by simp [Act.eval, Act.put]) hr1 ?_)
  go_wp2_with (simp only [hov])
  go_region_law (refine step_copy_runU rfl (.tmp 126) (.tmp 129) 29 29 rfl _ _ (by simp [Act.eval, Act.put]) (by simp [Act.eval, Act.put]) hr1 ?_)
  go_wp2
  go_ret
  exact ⟨g, c, _, rfl, HG.out, HL.out, HR.out, by omega, hcm, .inl rfl, HO.out, HB.out⟩
end Go.Proofs.Ytplngfammfdemaa
end
section
namespace Go.Proofs.Ytplngfammfdemaa
open Go.RowKit Go.Proofs.YtplngfammfdemaaW.PrintWords Go.Proofs.YtplngfammfdemaaW.PrintLast Go.Proofs.YtplngfammfdemaaW.PrintMore Q
set_option linter.unusedVariables false
set_option linter.unusedSimpArgs false
/-- What is left of a row of one's own: a row of one's own, the same or a new one. -/
def RowT (w w' : World) (base g : Nat) (ok : Nat → Prop) (e : Ending) (ys : List S31) : Prop := ∃ g' cap, ∃ cells : Array Value, e = .returned (.slice (some ⟨g', 0, none⟩) ys.length cap) ∧ OwnAt w' ok base g' cap cells ys ∧ (g' = g ∨ w.heap.size ≤ g') ∧ OnlyRow w w' g ∧ Below base w w'
section
variable {w w' : World} {ok : Nat → Prop} {base g cap N : Nat} {cells : Array Value} {xs ys : List S31} {rows : List (List Value)} {e : Ending}
theorem TreeRows.oneL (h : TreeRows w ok rows xs) : One rows := fun r hr => by
  obtain ⟨x, hx⟩ := h.mem hr
  exact hx.one
theorem RowOut.trees (h : RowOut w w' base g e N rows) (hr : TreeRows w ok rows ys) (hN : N = ys.length) (hgb : base ≤ g) (hb : base ≤ w.heap.size) (hf : ys.length ≤ 1000000) (ha : ∀ k, ok k → k ≠ g ∧ k < w.heap.size) : RowT w w' base g ok e ys := by
  subst hN
  obtain ⟨g', cap, cs, rfl, hB, hL, ht, hn, hm, hg, hO, hbl⟩ := h
  have hr' : TreeRows w' ok rows ys := hr.step (fun A ys hF => Kd.F_step hF (fun k hk hlt => hO.2 k hlt (ha k hk).1))
  refine ⟨g', cap, cs.toArray, rfl, ⟨KidsAt.of_rows hB (by simpa using ht) hr' hf (fun k hk => ?_), by omega, hn, hm, by simpa using hL⟩, hg, hO, hbl⟩
  have := ha k hk
  omega
theorem OwnAt.open4 (h : OwnAt w ok base g cap cells xs) : ∃ rows, w.heap[g]? = some (.cells cells.toList.toArray 31 (0, 0)) ∧ cells.toList.length = cap * 4 ∧ cells.toList.take (xs.length * 4) = rows.flatten ∧ TreeRows w ok rows xs := by
  obtain ⟨rows, h1, h2⟩ := h.kids.toRows
  exact ⟨rows, by rw [Array.toArray_toList]; exact h.kids.blk, by simpa using h.size, h1, h2⟩
theorem insert_tree (HO : OwnAt w ok base g cap cells xs) (hb : base ≤ w.heap.size) (hp : 0 < xs.length) (hf : xs.length ≤ 100000) (ha : ∀ k, ok k → k ≠ g ∧ k < w.heap.size) {vb cv : Nat} {y : S31} {A : Option Addr} {c : Nat} (hV : w.heap[vb]? = some (.cells #[.int .i64 y.f0, .int .i64 y.f1, .int .i64 y.f2, .slice A y.f3.length c] 31 (0, 0))) (hvb : vb ≠ g) (hc : y.f3.length ≤ c) (hF : Kd.F k31 w ok A y.f3.length y.f3) (i : Nat) (hi : i ≤ xs.length) :
    Calls Try.prog 116 #[.slice (some ⟨g, 0, none⟩) xs.length cap, .int .i64 (i : Int), .slice (some ⟨vb, 0, none⟩) 1 cv] w fun e w' => RowT w w' base g ok e (xs.take i ++ y :: xs.drop i) := by
  obtain ⟨rows, hG, hL, ht, hR⟩ := HO.open4
  have hY : TreeRow w ok [.int .i64 y.f0, .int .i64 y.f1, .int .i64 y.f2, .slice A y.f3.length c] y := ⟨A, c, rfl, hc, hF⟩
  have hgl : g < w.heap.size := blk_lt HO.kids.blk
  have key : ∀ {w' e}, RowOut w w' base g e (xs.length + 1) (rows.take i ++ [.int .i64 y.f0, .int .i64 y.f1, .int .i64 y.f2, .slice A y.f3.length c] :: rows.drop i) → RowT w w' base g ok e (xs.take i ++ y :: xs.drop i) := fun h =>
    h.trees ((hR.take i).append (TreeRows.cons hY (hR.drop i))) (by simp only [List.length_append, List.length_take, List.length_cons, List.length_drop]; omega) HO.low hb (by simp only [List.length_append, List.length_take, List.length_cons, List.length_drop]; omega) ha
  by_cases hie : i = xs.length
  · subst hie
    have hown : w.ownsRow base 31 4 (.slice (some ⟨g, 0, none⟩) xs.length cap) xs.length rows.flatten := ⟨by rw [flat4_len _ hR.four, hR.len], .inr ⟨g, cap, cells, rfl, HO.low, HO.kids.blk, HO.fit, HO.most, HO.size, ht⟩⟩
    refine (insert_end4 base cap xs.length cv vb (some ⟨g, 0, none⟩) [.int .i64 y.f0, .int .i64 y.f1, .int .i64 y.f2, .slice A y.f3.length c] rows [.int .i64 y.f0, .int .i64 y.f1, .int .i64 y.f2, .slice A y.f3.length c] hR.four hR.oneL rfl hY.one hR.len w (by omega) hb hown hV rfl (by have := HO.fit; omega) (fun h => by cases h)).mono ?_
    rintro e w' ⟨v', rfl, ho, hgr0, hat⟩
    have hgr : w.grownBy w' (some g) := hgr0
    have hlow := HO.low
    obtain ⟨g', cap', cur', rfl, hb', hg', hnc, hcm, hsz, htk⟩ := own_open4 ho (Nat.succ_pos _)
    refine key ⟨g', cap', cur'.toList, rfl, by rw [Array.toArray_toList]; exact hg', by simpa using hsz, ?_, hnc, hcm, ?_, ⟨hgr.size, fun j hj hne => hgr.block j hj (fun e => hne (Option.some.inj e))⟩, (Below.refl base w).grown hgr hb (fun k hk => by have := Option.some.inj hk; omega)⟩
    · rw [htk, List.flatten_append, List.flatten_cons, List.take_of_length_le (by rw [hR.len]; exact Nat.le_refl _), List.drop_of_length_le (by rw [hR.len]; exact Nat.le_refl _)]; simp
    · have h9 : some g' = some g ∨ some g' = some w.heap.size := hat
      simp only [Option.some.injEq] at h9
      omega
  · have hil : i < xs.length := by omega
    by_cases hroom : xs.length + 1 ≤ cap
    · refine (insert_room4 base g cap xs.length cv vb cells.toList [.int .i64 y.f0, .int .i64 y.f1, .int .i64 y.f2, .slice A y.f3.length c] rows [.int .i64 y.f0, .int .i64 y.f1, .int .i64 y.f2, .slice A y.f3.length c] hR.four hR.oneL rfl hY.one i hR.len hil w (by omega) HO.low hb hG hV rfl hvb hroom HO.most hL ht).mono ?_
      rintro e w' ⟨cs, rfl, h1, h2, h3, h4, h5⟩
      exact key ⟨g, cap, cs, rfl, h1, h2, h3, hroom, HO.most, .inl rfl, h5, h4⟩
    · have hcap : cap = xs.length := by have := HO.fit; omega
      rw [hcap] at hL ⊢
      refine (insert_grow4 base g xs.length cv vb cells.toList [.int .i64 y.f0, .int .i64 y.f1, .int .i64 y.f2, .slice A y.f3.length c] rows [.int .i64 y.f0, .int .i64 y.f1, .int .i64 y.f2, .slice A y.f3.length c] hR.four hR.oneL rfl hY.one i hR.len hil w (by omega) hb hG hV rfl hL ht).mono ?_
      rintro e w' ⟨G, cs, rfl, h1, h2, h3, h4, h5, h6⟩
      exact key ⟨_, G, cs, rfl, h1, h2, h3, h4, h5, .inr (Nat.le_refl _), ⟨h6.size, fun j hj _ => h6.block j hj⟩, h6.mono hb⟩
theorem delete_tree (HO : OwnAt w ok base g cap cells xs) (hb : base ≤ w.heap.size) (hf : xs.length ≤ 100000) (ha : ∀ k, ok k → k ≠ g ∧ k < w.heap.size) (i : Nat) (hi : i < xs.length) :
    Calls Try.prog 113 #[.slice (some ⟨g, 0, none⟩) xs.length cap, .int .i64 (i : Int), .int .i64 ((i + 1 : Nat) : Int)] w fun e w' => RowT w w' base g ok e (xs.take i ++ xs.drop (i + 1)) := by
  obtain ⟨rows, hG, hL, ht, hR⟩ := HO.open4
  obtain ⟨m, hm⟩ : ∃ m, xs.length = m + 1 := ⟨xs.length - 1, by omega⟩
  have hfit := HO.fit
  rw [hm] at ht hfit ⊢
  refine (delete_any4 base g cap m cells.toList rows hR.four hR.oneL i (by rw [hR.len, hm]) (by omega) w (by omega) HO.low hb hG hfit HO.most hL ht).mono ?_
  rintro e w' ⟨cs, rfl, h1, h2, h3, h4, h5⟩
  have h : RowOut w w' base g (.returned (.slice (some ⟨g, 0, none⟩) m cap)) m (rows.take i ++ rows.drop (i + 1)) := ⟨g, cap, cs, rfl, h1, h2, h3, by omega, HO.most, .inl rfl, h5, h4⟩
  exact h.trees ((hR.take i).append (hR.drop (i + 1))) (by simp only [List.length_append, List.length_take, List.length_drop]; omega) HO.low hb (by simp only [List.length_append, List.length_take, List.length_drop]; omega) ha
end
end Go.Proofs.Ytplngfammfdemaa
end
section
namespace Go.Proofs.Ytplngfammfdemaa
open Go.RowKit Go.Proofs.YtplngfammfdemaaW.PrintWords Go.Proofs.YtplngfammfdemaaW.PrintLast Go.Proofs.YtplngfammfdemaaW.PrintMore Q
set_option linter.unusedVariables false
set_option linter.unusedSimpArgs false
set_option maxHeartbeats 8000000 in
set_option maxRecDepth 100000 in
theorem replace_grow4 (base g c i q m cv vb : Nat) (L V : List Value) (l v : List (List Value)) (hf4 : Four l) (h1 : One l) (hv4 : Four v) (hv1 : One v) (hn : l.length = i + 1 + q + 1) (hm : v.length = m) (hm2 : 2 ≤ m) (hr : c < i + m + (q + 1)) (w : World) (hlen : i + 1 + q + 1 ≤ 1000000) (hmlen : m ≤ 1000000) (hg : base ≤ g) (hb : base ≤ w.heap.size) (hG : w.heap[g]? = some (.cells L.toArray 31 (0, 0))) (hV : w.heap[vb]? = some (.cells V.toArray 31 (0, 0))) (hVt : V.take (m * 4) = v.flatten) (hvb : vb ≠ g) (hc : i + 1 + q + 1 ≤ c) (hcm : c ≤ maxLen) (hL : L.length = c * 4) (ht : L.take ((i + 1 + q + 1) * 4) = l.flatten) :
    Calls Try.prog 112 #[.slice (some ⟨g, 0, none⟩) (i + 1 + q + 1) c, .int .i64 (i : Int), .int .i64 ((i + 1 : Nat) : Int), .slice (some ⟨vb, 0, none⟩) m cv] w fun e w' => RowOut w w' base g e (i + m + (q + 1)) (l.take i ++ (v ++ l.drop (i + 1))) := by
  have hu29 := Try.underlying29
  obtain ⟨i0, hi0, hz0, hz1, hz2⟩ := info_parts info31
  have hvl : v.flatten.length = m * 4 := by rw [flat4_len _ hv4, hm]
  have hsrcV : ∀ W : World, W.heap[vb]? = some (.cells V.toArray 31 (0, 0)) → ∀ j u, v.flatten[j]? = some u → W.cell? ((⟨vb, 0, none⟩ : Addr).add j) = some u := by
    intro W hW j u hj
    rw [addr_addU, blk_cell hW, List.getElem?_toArray, Nat.zero_add]
    rw [← hVt, List.getElem?_take] at hj
    split at hj
    · exact hj
    · cases hj
  have hdl : ((l.drop (i + 1)).flatten).length = (q + 1) * 4 := by rw [flat4_len _ (hf4.drop _), List.length_drop, hn]; congr 1; omega
  have hsrcT : ∀ W : World, W.heap[g]? = some (.cells L.toArray 31 (0, 0)) → ∀ j u, ((l.drop (i + 1)).flatten)[j]? = some u → W.cell? ((⟨g, (i + 1) * 4, none⟩ : Addr).add j) = some u := by
    intro W hW j u hj
    rw [addr_addU, blk_cell hW, List.getElem?_toArray]
    rw [← flat4_drop _ hf4, List.getElem?_drop, ← ht, List.getElem?_take] at hj
    split at hj
    · exact hj
    · cases hj
  have hold : (Builtin.firstCells i0.size i (.slice (some ⟨g, 0, none⟩) i c)).run Try.prog w.drew.drew = .ok ((l.take i).flatten).toArray w.drew.drew := by
    rw [hz1]
    refine run_firstCells_some w.drew.drew 4 i ⟨g, 0, none⟩ i c ((l.take i).flatten) (by rw [flat4_len _ (hf4.take _), List.length_take]; omega) (fun j v hj => ?_)
    rw [addr_addU, blk_cell (blk_drew (blk_drew hG)), List.getElem?_toArray, Nat.zero_add]
    rw [← flat4_take _ hf4, ← ht, List.getElem?_take] at hj
    split at hj
    · rw [List.getElem?_take] at hj
      split at hj
      · exact hj
      · cases hj
    · cases hj
  have hap := Lib.run_append_grow_zeros (P := Try.prog) w.drew 29 3 29 31 i0 _ .i64 .i64 Try.underlying29 Try.underlying3 hi0 hz0 (some ⟨g, 0, none⟩) i c ((l.take i).flatten) hold (m + q + 1) (by omega) (by omega) (by omega) (by omega) (by rw [hz2]; omega) (by rw [hz2]; exact growslice_fits (by omega) (by omega))
  have hin : i + (m + q + 1) = i + m + (q + 1) := by omega
  rw [hin] at hap
  have hGc : i + m + (q + 1) ≤ grownCap w.drew (i + m + (q + 1)) c 31 := grownCap_ge _ _ _ _
  have hGm : grownCap w.drew (i + m + (q + 1)) c 31 ≤ maxLen := grownCap_le_maxLen _ _ _ _ (by unfold maxLen; omega)
  generalize grownCap w.drew (i + m + (q + 1)) c 31 = G at hap hGc hGm
  obtain ⟨R0, hR0, hRl, hRt⟩ : ∃ R0 : List Value, (((List.take i l).flatten).toArray ++ Builtin.zeroCells (Value.agg #[Value.int IntKind.i64 0, Value.int IntKind.i64 0, Value.int IntKind.i64 0, Value.slice none 0 0]).cells (m + q + 1) ++ Builtin.zeroCells (Value.agg #[Value.int IntKind.i64 0, Value.int IntKind.i64 0, Value.int IntKind.i64 0, Value.slice none 0 0]).cells (G - (i + m + (q + 1)))) = R0.toArray ∧ R0.length = G * 4 ∧ R0.take (i * 4) = (l.take i).flatten := by
    refine ⟨(l.take i).flatten ++ ((Builtin.zeroCells (Value.agg #[Value.int IntKind.i64 0, Value.int IntKind.i64 0, Value.int IntKind.i64 0, Value.slice none 0 0]).cells (m + q + 1)).toList ++ (Builtin.zeroCells (Value.agg #[Value.int IntKind.i64 0, Value.int IntKind.i64 0, Value.int IntKind.i64 0, Value.slice none 0 0]).cells (G - (i + m + (q + 1)))).toList), ?_, ?_, ?_⟩
    · apply Array.ext'
      simp
    · rw [List.length_append, List.length_append, flat4_len _ (hf4.take _), List.length_take, Array.length_toList (xs := Builtin.zeroCells _ (m + q + 1)), Array.length_toList (xs := Builtin.zeroCells _ (G - (i + m + (q + 1)))), size_zeroCells, size_zeroCells]
      show _ + (_ * 4 + _ * 4) = _
      omega
    · rw [List.take_left' (by rw [flat4_len _ (hf4.take _), List.length_take]; omega)]
  rw [hR0] at hap
  clear hR0 hold
  have hG0 : (w.drew.drew.alloc (.cells R0.toArray 31)).heap[w.heap.size]? = some (.cells R0.toArray 31 (0, 0)) := blk_new w.drew.drew _
  have hB0 : Below w.heap.size w (w.drew.drew.alloc (.cells R0.toArray 31)) := (below_drew (below_drew (Below.refl _ w))).alloc (Nat.le_refl _) _
  generalize w.drew.drew.alloc (.cells R0.toArray 31) = w1 at hap hG0 hB0
  have hap' : (Builtin.append_ #[29, 3] 29 #[.slice (some ⟨g, 0, none⟩) i c, .int .i64 ((m + q + 1 : Nat) : Int)]).run Try.prog w.drew = .ok (.slice (some ⟨w.heap.size, 0, none⟩) (i + m + (q + 1)) G) w1 := hap
  have hV1 := blk_below hV hB0
  have hmin : Nat.min m (m + q + 1) = m := by simp only [Nat.min_def]; split <;> omega
  obtain ⟨w2, hr2, hG2, hB2, hO2⟩ := run_copy_splice (P := Try.prog) w1 29 29 3 31 4 w.heap.size (i * 4) (m + q + 1) (G - i) ⟨vb, 0, none⟩ m cv R0 31 v.flatten Try.underlying29 size31 hG0 (by rw [hmin]; exact hvl) (hsrcV _ hV1) (by rw [hRl, hvl]; omega) hv1.flat w.heap.size w hB0 (Nat.le_refl _)
  rw [hmin] at hr2
  have hs2 : (splice R0 (i * 4) v.flatten).length = G * 4 := by rw [length_splice _ _ _ (by rw [hRl, hvl]; omega), hRl]
  have hg2 : w2.heap[g]? = some (.cells L.toArray 31 (0, 0)) := blk_below hG hB2
  obtain ⟨w3, hr3, hG3, hB3, hO3⟩ := run_copy_splice (P := Try.prog) w2.drew 29 29 3 31 4 w.heap.size ((i + m) * 4) (q + 1) (G - (i + m)) ⟨g, (i + 1) * 4, none⟩ (q + 1) (c - (i + 1)) _ 31 ((l.drop (i + 1)).flatten) Try.underlying29 size31 (blk_drew hG2) (by rw [hdl, show Nat.min (q + 1) (q + 1) = q + 1 from Nat.min_self _]) (hsrcT _ (blk_drew hg2)) (by rw [hdl, hs2]; omega) ((h1.drop _).flat) w.heap.size w (below_drew hB2) (Nat.le_refl _)
  rw [show Nat.min (q + 1) (q + 1) = q + 1 from Nat.min_self _] at hr3
  have hR := splice4_new R0 l v hf4 hv4 (i + 1 + q + 1) i (i + 1) G hn (by omega) (by omega) hRl (by rw [hm]; omega) hRt
  rw [hm, show i + 1 + q + 1 - (i + 1) = q + 1 by omega] at hR
  have HR := Aside0.mk hR
  have HG := Aside0.mk hG3
  have HL := Aside0.mk (show (splice (splice R0 (i * 4) v.flatten) ((i + m) * 4) (l.drop (i + 1)).flatten).length = G * 4 by rw [length_splice _ _ _ (by rw [hs2, hdl]; omega), hs2])
  have HGc := Aside0.mk hGc
  have HGm := Aside0.mk hGm
  have HB := Aside0.mk hB3
  have n1 : ((i : Int) == ((i + 1 : Nat) : Int)) = false := beq_eq_false_iff_ne.2 (by omega)
  have n2 : (((i + 1 : Nat) : Int) == ((i + 1 + q + 1 : Nat) : Int)) = false := beq_eq_false_iff_ne.2 (by omega)
  have n3 : decide ((c : Int) < (i : Int) + (m : Int) + ((q : Int) + 1)) = true := decide_eq_true (by omega)
  have m1 : (i : Int) ≤ (c : Int) := by omega
  have m2 : (0 : Int) ≤ (i : Int) := by omega
  have m3 : (0 : Int) ≤ (i : Int) + 1 := by omega
  have m4 : (i : Int) + 1 ≤ (i : Int) + 1 + (q : Int) + 1 := by omega
  have m5 : (i : Int) ≤ (i : Int) + 1 + (q : Int) + 1 := by omega
  have m8 : (c = i + 1) = False := eq_false (by omega)
  have m9 : (c = i) = False := eq_false (by omega)
  have m10 : (G = i + m) = False := eq_false (by omega)
  have m16 : (G = i) = False := eq_false (by omega)
  have m11 : (i : Int) + (m : Int) ≤ (i : Int) + (m : Int) + ((q : Int) + 1) := by omega
  have m12 : (0 : Int) ≤ (i : Int) + (m : Int) := by omega
  have m13 : (i : Int) ≤ (i : Int) + (m : Int) + ((q : Int) + 1) := by omega
  have m14 : (i : Int) + 1 ≤ (c : Int) := by omega
  have m15 : (i : Int) ≤ (i : Int) + 1 := by omega
  have t1 : ((i : Int) + 1).toNat = i + 1 := by omega
  have t2 : ((i : Int) + (m : Int)).toNat = i + m := by omega
  have t4 : i + 1 + q + 1 - (i + 1) = q + 1 := by omega
  have t5 : IntKind.i64.wrap ((i : Int) + (m : Int)) = (i : Int) + (m : Int) := by rw [IntKind.wrap_i64]; omega
  have t7 : i + m + (q + 1) - i = m + q + 1 := by omega
  have t8 : (i : Int) + (m : Int) + ((q : Int) + 1) - (i : Int) = ((m + q + 1 : Nat) : Int) := by omega
  clear hap hG0 hG2 hG3 hB0 hB2 hB3 hO2 hO3 hsrcV hsrcT hs2 hG hV hV1 hVt hvb hL ht hdl hvl hn hm hRl hRt hGc hGm hg2 hz0 hz1 hz2 hi0 hin hR hmin
  go_enter Try.func112, Try.ntmps112
  go_wp2
  go_region_law (refine step_copy_runU rfl (.tmp 78) (.tmp 81) 29 29 rfl _ _ (by simp [Act.eval, Act.put]) (by simp [Act.eval, Act.put]) hr3 ?_)
  go_wp2_with (at_builtin; refine Lib.wpList_append_run _ rfl _ _ _ _ rfl _ _ rfl rfl _ _ hap' ?_)
  go_region_law (refine step_copy_runU rfl (.tmp 78) (.tmp 81) 29 29 rfl _ _ (by simp [Act.eval, Act.put]) (by simp [Act.eval, Act.put]) hr3 ?_)
  go_wp2
  go_ret
  exact ⟨w.heap.size, G, _, rfl, HG.out, HL.out, HR.out, HGc.out, HGm.out, .inr (Nat.le_refl _), ⟨HB.out.size, fun j hj _ => HB.out.block j hj⟩, HB.out.mono hb⟩
end Go.Proofs.Ytplngfammfdemaa
end
