-- A copy of the text YtplngfammfdemaaGDelete with what this claim does not reach left out (prune.py, a program of this project).
import Derived.Test.YtplngfammfdemaaZtGCopy
import Derived.Test.YtplngfammfdemaaZtGMul
import Derived.Deep.RegionLaw
namespace Go.Proofs.Ytplngfammfdemaa
open Go.RowKit Go.Proofs.YtplngfammfdemaaW.PrintWords Go.Proofs.YtplngfammfdemaaW.PrintLast Go.Proofs.YtplngfammfdemaaW.PrintMore P
set_option linter.unusedVariables false
set_option linter.unusedSimpArgs false
def seatL (x : S48) : List Value := [.int .i64 x.f0, .int .i64 x.f1, .int .i64 x.f2, .int .i64 x.f3]
def flatS (l : List S48) : List Value := l.flatMap seatL
theorem flatS_length (l : List S48) : (flatS l).length = l.length * 4 := by
  induction l with
  | nil => rfl
  | cons x l ih => unfold flatS at *; rw [List.flatMap_cons, List.length_append, ih]; simp [seatL]; omega
theorem flatS_append (a b : List S48) : flatS (a ++ b) = flatS a ++ flatS b := by unfold flatS; rw [List.flatMap_append]
theorem flatS_take (l : List S48) (i : Nat) : (flatS l).take (i * 4) = flatS (l.take i) := by
  by_cases h : i ≤ l.length
  · have e : flatS l = flatS (l.take i) ++ flatS (l.drop i) := by rw [← flatS_append, List.take_append_drop]
    rw [e, List.take_left' (by rw [flatS_length, List.length_take]; omega)]
  · rw [List.take_of_length_le (by rw [flatS_length]; omega), List.take_of_length_le (by omega)]
theorem flatS_drop (l : List S48) (i : Nat) : (flatS l).drop (i * 4) = flatS (l.drop i) := by
  by_cases h : i ≤ l.length
  · have e : flatS l = flatS (l.take i) ++ flatS (l.drop i) := by rw [← flatS_append, List.take_append_drop]
    rw [e, List.drop_left' (by rw [flatS_length, List.length_take]; omega)]
  · rw [List.drop_of_length_le (by rw [flatS_length]; omega), List.drop_of_length_le (by omega)]; rfl
theorem reps_flat {w : World} {base : Nat} {ok : Nat → Prop} {l : List S48} {cs : List Value} (h : Reps (k48.M w base ok) 4 l cs) : cs = flatS l := by
  obtain ⟨h1, h2⟩ := h
  have h3 : (flatS l).length = cs.length := by rw [flatS_length, h1]
  induction l generalizing cs with
  | nil => exact List.eq_nil_of_length_eq_zero (by simpa using h1)
  | cons x l ih =>
    have hx := k48_openM (h2 0 x rfl)
    rw [Nat.zero_mul, List.drop_zero] at hx
    have hr := ih (cs := cs.drop 4) (by rw [List.length_drop, h1]; simp; omega) (fun j p hj => by
      have := h2 (j + 1) p hj
      rw [List.drop_drop, show 4 + j * 4 = (j + 1) * 4 by omega]; exact this) (by rw [flatS_length, List.length_drop, h1]; simp; omega)
    rw [← List.take_append_drop 4 cs, hx, hr]
    rfl
theorem flat_reps (w : World) (base : Nat) (ok : Nat → Prop) (l : List S48) : Reps (k48.M w base ok) 4 l (flatS l) := by
  refine ⟨flatS_length l, fun j p hj => ?_⟩
  rw [flatS_drop]
  have hjl : j < l.length := (List.getElem?_eq_some_iff.1 hj).1
  have hp : l[j] = p := (List.getElem?_eq_some_iff.1 hj).2
  rw [List.drop_eq_getElem_cons hjl, hp]
  exact k48_mkM w base ok p
/-- A row of seats of the call's own, by its block. -/
theorem R_openS {w : World} {base : Nat} {ok : Nat → Prop} {A : Option Addr} {c : Nat} {l : List S48} (h : Kd.R k48 48 w base ok (.slice A l.length c) l) (h0 : 0 < l.length) :
    ∃ g cur, A = some ⟨g, 0, none⟩ ∧ base ≤ g ∧ w.heap[g]? = some (.cells cur 48 (0, 0)) ∧ l.length ≤ c ∧ c ≤ maxLen ∧ cur.size = c * 4 ∧ cur.toList.take (l.length * 4) = flatS l := by
  obtain ⟨h1, inner, ⟨h2, h3⟩, h4⟩ := h
  have hi := reps_flat h4
  subst hi
  rcases h3 with ⟨h3, h5⟩ | ⟨g, cap, cur, h3, hg, hh, hc, hm, hs, ht⟩
  · omega
  · simp only [Value.slice.injEq] at h3
    obtain ⟨rfl, _, rfl⟩ := h3
    exact ⟨g, cur, rfl, hg, hh, hc, hm, hs, ht⟩
theorem R_mkS {w : World} {base g c : Nat} {cur : Array Value} {l : List S48} (hg : base ≤ g) (hh : w.heap[g]? = some (.cells cur 48 (0, 0))) (hc : l.length ≤ c) (hm : c ≤ maxLen) (hs : cur.size = c * 4) (ht : cur.toList.take (l.length * 4) = flatS l) :
    Kd.R k48 48 w base (fun k => k = g) (.slice (some ⟨g, 0, none⟩) l.length c) l :=
  ⟨fun k hk => by simpa [Value.ownBlock] using hk.symm, flatS l, ⟨flatS_length l, .inr ⟨g, c, cur, rfl, hg, hh, hc, hm, hs, ht⟩⟩, flat_reps _ _ _ _⟩
theorem blk_setCells {g : Nat} {t : TypeId} : ∀ (vs : List Value) (o : Nat) (w : World) (L : List Value), w.heap[g]? = some (.cells L.toArray t (0, 0)) → o + vs.length ≤ L.length →
    (w.setCells g o vs).heap[g]? = some (.cells (splice L o vs).toArray t (0, 0))
  | [], o, w, L, h, hl => by simpa [World.setCells, splice] using h
  | v :: vs, o, w, L, h, hl => by
    simp only [List.length_cons] at hl
    have h1 := blk_put h o v (cs' := (L.set o v).toArray) (by simp)
    have h2 := blk_setCells vs (o + 1) _ (L.set o v) h1 (by simp; omega)
    show (World.setCells (w.setCell ⟨g, o, none⟩ v) g (o + 1) vs).heap[g]? = _
    rw [h2]
    congr 3
    unfold splice
    rw [show o + 1 + vs.length = o + (vs.length + 1) by omega, List.length_cons]
    have e1 : (L.set o v).take (o + 1) = L.take o ++ [v] := by
      apply List.ext_getElem
      · simp; omega
      · intro i h1 h2
        simp only [List.length_take, List.length_set] at h1
        rw [List.getElem_take, List.getElem_set]
        by_cases hi : i < o
        · rw [if_neg (by omega), List.getElem_append_left (by simp; omega), List.getElem_take]
        · have : i = o := by omega
          subst this
          rw [if_pos rfl, List.getElem_append_right (by simp; omega)]
          simp
    have e2 : (L.set o v).drop (o + (vs.length + 1)) = L.drop (o + (vs.length + 1)) := by rw [List.drop_set_of_lt (by omega)]
    rw [e1, e2]; simp
theorem below_setCells {g : Nat} {B : Nat} {w0 : World} (hB : B ≤ g) : ∀ (vs : List Value) (o : Nat) (w : World), Below B w0 w → Below B w0 (w.setCells g o vs)
  | [], o, w, h => h
  | v :: vs, o, w, h => below_setCells hB vs (o + 1) _ (h.setCell (p := ⟨g, o, none⟩) hB v)
theorem addr_add (g o j : Nat) : (⟨g, o, none⟩ : Addr).add j = ⟨g, o + j, none⟩ := by unfold Addr.add; split <;> simp_all
theorem info48 : (Try.prog.info? 48).map (fun i => (i.zero, i.size, i.bytes)) = some (some (.agg #[.int .i64 0, .int .i64 0, .int .i64 0, .int .i64 0]), 4, 32) := by kernel_rfl
theorem one_flat (l : List S48) : ∀ v ∈ flatS l, v.oneCell' = true := by
  intro v hv
  unfold flatS at hv
  rw [List.mem_flatMap] at hv
  obtain ⟨x, _, hx⟩ := hv
  simp only [seatL, List.mem_cons, List.not_mem_nil, or_false] at hx
  rcases hx with rfl | rfl | rfl | rfl <;> rfl
theorem splice_take (L : List Value) (l : List S48) (m i c : Nat) (hn : l.length = m + 1) (hi : i < m + 1) (hL : L.length = c * 4) (hc : m + 1 ≤ c) (ht : L.take ((m + 1) * 4) = flatS l) (zs : List Value) (hz : zs.length = 4) :
    (splice (splice L (i * 4) (flatS (l.drop (i + 1)))) (m * 4) zs).take (m * 4) = flatS (l.eraseIdx i) := by
  have hd : (flatS (l.drop (i + 1))).length = (m - i) * 4 := by rw [flatS_length, List.length_drop, hn]; congr 1; omega
  have h1 : (splice L (i * 4) (flatS (l.drop (i + 1)))).length = c * 4 := by rw [length_splice _ _ _ (by rw [hd]; omega), hL]
  have e1 : ∀ (A B C : List Value) (k : Nat), A.length = k → (A ++ (B ++ C)).take k = A := by intro A B C k h; rw [List.take_left' h]
  unfold splice at h1 ⊢
  rw [e1 _ _ _ _ (by rw [List.length_take, h1]; omega)]
  rw [← List.append_assoc, List.take_left' (by rw [List.length_append, List.length_take, hd, hL]; omega)]
  have e2 : L.take (i * 4) = flatS (l.take i) := by
    rw [← flatS_take, ← ht, List.take_take]
    congr 1
    omega
  rw [e2, ← flatS_append, List.eraseIdx_eq_take_drop_succ]
set_option maxHeartbeats 8000000 in
set_option maxRecDepth 100000 in
theorem delete_far (base g c m : Nat) (L : List Value) (l : List S48) (i : Nat) (hn : l.length = m + 1) (hi : i ≤ m) (hci : c ≠ i + 1) (w : World) (hlen : m < 1000000000000000000) (hg : base ≤ g) (hb : base ≤ w.heap.size) (hG : w.heap[g]? = some (.cells L.toArray 48 (0, 0))) (hc : m + 1 ≤ c) (hm : c ≤ maxLen) (hL : L.length = c * 4) (ht : L.take ((m + 1) * 4) = flatS l) :
    Calls Try.prog 71 #[.slice (some ⟨g, 0, none⟩) (m + 1) c, .int .i64 (i : Int), .int .i64 ((i + 1 : Nat) : Int)] w fun e w' => ∃ v0_ : Value, e = .returned v0_ ∧ Kd.R k48 48 w' base (fun k => k = g) v0_ (l.eraseIdx i) ∧ Below base w w' ∧ OnlyRow w w' g := by
  obtain ⟨i0, hi0, hz0, hz1, hz2⟩ := info_parts info48
  have hu45 := Try.underlying45
  have n1 : ((i : Int) == ((i + 1 : Nat) : Int)) = false := beq_eq_false_iff_ne.2 (by omega)
  have m1 : (i : Int) ≤ ((i + 1 : Nat) : Int) := by omega
  have m2 : ((i + 1 : Nat) : Int) ≤ ((m + 1 : Nat) : Int) := by omega
  have m3 : ((m + 1 : Nat) : Int) ≤ (c : Int) := by omega
  have m4 : (0 : Int) ≤ (i : Int) := by omega
  have m5 : (0 : Int) ≤ ((i + 1 : Nat) : Int) := by omega
  have m6 : (i : Int) ≤ (c : Int) := by omega
  have HN := Aside0.mk hn
  have HT := Aside0.mk ht
  clear hn ht
  go_enter Try.func71, Try.ntmps71
  go_wp2
  have hcl : (flatS (l.drop (i + 1))).length = (m - i) * 4 := by rw [flatS_length, List.length_drop, HN.out]; congr 1; omega
  have hsp : ∀ j, j < (flatS (l.drop (i + 1))).length → (w.cell? ⟨g, 0 + i * 4 + j, none⟩).isSome = true ∧ w.frozen? ⟨g, 0 + i * 4 + j, none⟩ = false := by
    intro j hj
    refine ⟨?_, blk_frozen hG _⟩
    rw [blk_cell hG, List.getElem?_toArray, List.getElem?_eq_getElem (by rw [hcl] at hj; omega)]
    rfl
  have hcs : ∀ j u, (flatS (l.drop (i + 1)))[j]? = some u → w.cell? ((⟨g, (i + 1) * 4, none⟩ : Addr).add j) = some u := by
    intro j u hj
    rw [addr_add, blk_cell hG, List.getElem?_toArray]
    have hjl : j < (flatS (l.drop (i + 1))).length := (List.getElem?_eq_some_iff.1 hj).1
    rw [← flatS_drop, List.getElem?_drop, ← HT.out, List.getElem?_take] at hj
    split at hj
    · exact hj
    · cases hj
  have k1 : (0 : Int) ≤ (i : Int) + 1 := by omega
  have k2 : (i : Int) + 1 ≤ (m : Int) + 1 := by omega
  have k3 : (c = i + 1) = False := eq_false (by omega)
  have k4 : m + 1 - (i + 1) = m - i := by omega
  go_region_law (refine step_append_room rfl (.tmp 22) (.tmp 25) 45 rfl 48 i0 4 Try.underlying45 hi0 hz1 g 0 i c rfl ⟨g, (i + 1) * 4, none⟩ (m - i) (c - (i + 1)) (flatS (l.drop (i + 1))) rfl hcl hcs (one_flat _) (by omega) hsp ?_)
  have hG4 := blk_setCells (t := 48) (flatS (l.drop (i + 1))) (0 + i * 4) w.drew L (blk_drew hG) (by rw [hcl, hL]; omega)
  have hB4 := below_setCells hg (flatS (l.drop (i + 1))) (0 + i * 4) w.drew (below_drew (Below.refl base w))
  have hs4 : (splice L (i * 4) (flatS (l.drop (i + 1)))).length = c * 4 := by rw [length_splice _ _ _ (by rw [hcl]; omega), hL]
  have hO4 := (OnlyRow.drew w g).trans (OnlyRow.setCells g (flatS (l.drop (i + 1))) (0 + i * 4) w.drew)
  rw [Nat.zero_add] at hG4 hB4 hO4
  try rw [show i + (m - i) = m by omega]
  generalize w.drew.setCells g (i * 4) (flatS (l.drop (i + 1))) = w4 at hG4 hB4 hO4 ⊢
  have hz48 : ∀ w, (zeroValue 48).run Try.prog w = .ok (.agg #[.int .i64 0, .int .i64 0, .int .i64 0, .int .i64 0]) w := fun w => by kernel_rfl
  have k5 : (c = m) = False := eq_false (by omega)
  have k6 : (m : Int) + 1 ≤ (c : Int) := by omega
  have k7 : (0 : Int) ≤ (m : Int) := by omega
  have k8 : (m : Int) ≤ (c : Int) := by omega
  have k9 : (m : Int) ≤ (m : Int) + 1 := by omega
  obtain ⟨w5, hclr, hG5, hB5, hO5⟩ := run_clear_splice (P := Try.prog) w4 45 0 48 (.agg #[.int .i64 0, .int .i64 0, .int .i64 0, .int .i64 0]) g (m * 4) 1 (c - m) _ 48 [.int .i64 0, .int .i64 0, .int .i64 0, .int .i64 0] Try.underlying45 hz48 (by decide) hG4 (by kernel_rfl) (by rw [hs4]; show m * 4 + 4 ≤ _; omega) (by decide) base w hB4 hg
  have HG5 := Aside0.mk hG5
  have HB5 := Aside0.mk hB5
  have HO5 := Aside0.mk (hO4.trans hO5)
  clear hG4 hB4 hcs hsp hcl k1 k2 k3 k4 n1 m1 m2 m3 m4 m5 m6 hG5 hB5 hO4 hO5
  have HS4 := Aside0.mk hs4
  clear hs4
  go_wp2
  go_ret
  refine ⟨_, rfl, ?_, HB5.out, HO5.out⟩
  have hl : (l.eraseIdx i).length = m := by rw [List.length_eraseIdx, HN.out]; simp; omega
  have := R_mkS (w := w5) (l := l.eraseIdx i) (c := c) hg HG5.out (by omega) hm (by rw [List.size_toArray, length_splice _ _ _ (by rw [HS4.out]; show m * 4 + 4 ≤ _; omega), HS4.out]) (by rw [List.toList_toArray, hl]; exact splice_take L l m i c HN.out (by omega) hL hc HT.out _ rfl)
  rw [hl] at this
  exact this
set_option maxHeartbeats 8000000 in
set_option maxRecDepth 100000 in
theorem delete_near (base g m : Nat) (L : List Value) (l : List S48) (hn : l.length = m + 1) (w : World) (hlen : m < 1000000000000000000) (hg : base ≤ g) (hb : base ≤ w.heap.size) (hG : w.heap[g]? = some (.cells L.toArray 48 (0, 0))) (hm : m + 1 ≤ maxLen) (hL : L.length = (m + 1) * 4) (ht : L.take ((m + 1) * 4) = flatS l) :
    Calls Try.prog 71 #[.slice (some ⟨g, 0, none⟩) (m + 1) (m + 1), .int .i64 (m : Int), .int .i64 ((m + 1 : Nat) : Int)] w fun e w' => ∃ v0_ : Value, e = .returned v0_ ∧ Kd.R k48 48 w' base (fun k => k = g) v0_ (l.eraseIdx m) ∧ Below base w w' ∧ OnlyRow w w' g := by
  obtain ⟨i0, hi0, hz0, hz1, hz2⟩ := info_parts info48
  have hu45 := Try.underlying45
  have n1 : ((m : Int) == ((m + 1 : Nat) : Int)) = false := beq_eq_false_iff_ne.2 (by omega)
  have m1 : (m : Int) ≤ ((m + 1 : Nat) : Int) := by omega
  have m2 : ((m + 1 : Nat) : Int) ≤ ((m + 1 : Nat) : Int) := by omega
  have m3 : ((m + 1 : Nat) : Int) ≤ ((m + 1) : Int) := by omega
  have m4 : (0 : Int) ≤ (m : Int) := by omega
  have m5 : (0 : Int) ≤ ((m + 1 : Nat) : Int) := by omega
  have m6 : (m : Int) ≤ ((m + 1) : Int) := by omega
  have HN := Aside0.mk hn
  have HT := Aside0.mk ht
  clear hn ht
  go_enter Try.func71, Try.ntmps71
  go_wp2
  have hcl : (flatS (l.drop (m + 1))).length = (m - m) * 4 := by rw [flatS_length, List.length_drop, HN.out]; congr 1; omega
  have hsp : ∀ j, j < (flatS (l.drop (m + 1))).length → (w.cell? ⟨g, 0 + m * 4 + j, none⟩).isSome = true ∧ w.frozen? ⟨g, 0 + m * 4 + j, none⟩ = false := by
    intro j hj
    refine ⟨?_, blk_frozen hG _⟩
    rw [blk_cell hG, List.getElem?_toArray, List.getElem?_eq_getElem (by rw [hcl] at hj; omega)]
    rfl
  have hnil : flatS (l.drop (m + 1)) = [] := List.eq_nil_of_length_eq_zero (by rw [hcl]; omega)
  have hcs : ∀ j u, (flatS (l.drop (m + 1)))[j]? = some u → w.cell? ((⟨g, 0, none⟩ : Addr).add j) = some u := by
    intro j u hj
    rw [hnil] at hj
    simp at hj
  have hcl0 : (flatS (l.drop (m + 1))).length = 0 * 4 := by rw [hcl]; omega
  clear hnil
  have k1 : (0 : Int) ≤ (m : Int) + 1 := by omega
  have k2 : (m : Int) + 1 ≤ (m : Int) + 1 := by omega
  have k4 : m + 1 - (m + 1) = m - m := by omega
  go_region_law (refine step_append_room rfl (.tmp 22) (.tmp 25) 45 rfl 48 i0 4 Try.underlying45 hi0 hz1 g 0 m (m + 1) rfl ⟨g, 0, none⟩ 0 0 (flatS (l.drop (m + 1))) rfl hcl0 hcs (one_flat _) (by omega) hsp ?_)
  have hG4 := blk_setCells (t := 48) (flatS (l.drop (m + 1))) (0 + m * 4) w.drew L (blk_drew hG) (by rw [hcl, hL]; omega)
  have hB4 := below_setCells hg (flatS (l.drop (m + 1))) (0 + m * 4) w.drew (below_drew (Below.refl base w))
  have hs4 : (splice L (m * 4) (flatS (l.drop (m + 1)))).length = (m + 1) * 4 := by rw [length_splice _ _ _ (by rw [hcl]; omega), hL]
  have hO4 := (OnlyRow.drew w g).trans (OnlyRow.setCells g (flatS (l.drop (m + 1))) (0 + m * 4) w.drew)
  rw [Nat.zero_add] at hG4 hB4 hO4
  try rw [show m + (m - m) = m by omega]
  generalize w.drew.setCells g (m * 4) (flatS (l.drop (m + 1))) = w4 at hG4 hB4 hO4 ⊢
  have hz48 : ∀ w, (zeroValue 48).run Try.prog w = .ok (.agg #[.int .i64 0, .int .i64 0, .int .i64 0, .int .i64 0]) w := fun w => by kernel_rfl
  have k6 : (m : Int) + 1 ≤ ((m + 1) : Int) := by omega
  have k7 : (0 : Int) ≤ (m : Int) := by omega
  have k8 : (m : Int) ≤ ((m + 1) : Int) := by omega
  have k9 : (m : Int) ≤ (m : Int) + 1 := by omega
  obtain ⟨w5, hclr, hG5, hB5, hO5⟩ := run_clear_splice (P := Try.prog) w4 45 0 48 (.agg #[.int .i64 0, .int .i64 0, .int .i64 0, .int .i64 0]) g (m * 4) 1 1 _ 48 [.int .i64 0, .int .i64 0, .int .i64 0, .int .i64 0] Try.underlying45 hz48 (by decide) hG4 (by kernel_rfl) (by rw [hs4]; show m * 4 + 4 ≤ _; omega) (by decide) base w hB4 hg
  have HG5 := Aside0.mk hG5
  have HB5 := Aside0.mk hB5
  have HO5 := Aside0.mk (hO4.trans hO5)
  clear hG4 hB4 hcs hsp hcl k1 k2 k4 n1 m1 m2 m3 m4 m5 m6 hG5 hB5 hO4 hO5
  have HS4 := Aside0.mk hs4
  clear hs4
  go_wp2
  go_ret
  refine ⟨_, rfl, ?_, HB5.out, HO5.out⟩
  have hl : (l.eraseIdx m).length = m := by rw [List.length_eraseIdx, HN.out]; simp
  have := R_mkS (w := w5) (l := l.eraseIdx m) (c := m + 1) hg HG5.out (by omega) hm (by rw [List.size_toArray, length_splice _ _ _ (by rw [HS4.out]; show m * 4 + 4 ≤ _; omega), HS4.out]) (by rw [List.toList_toArray, hl]; exact splice_take L l m m (m + 1) HN.out (by omega) hL (Nat.le_refl _) HT.out _ rfl)
  rw [hl] at this
  exact this
theorem delete_any (base g c m : Nat) (L : List Value) (l : List S48) (i : Nat) (hn : l.length = m + 1) (hi : i ≤ m) (w : World) (hlen : m < 1000000000000000000) (hg : base ≤ g) (hb : base ≤ w.heap.size) (hG : w.heap[g]? = some (.cells L.toArray 48 (0, 0))) (hc : m + 1 ≤ c) (hm : c ≤ maxLen) (hL : L.length = c * 4) (ht : L.take ((m + 1) * 4) = flatS l) :
    Calls Try.prog 71 #[.slice (some ⟨g, 0, none⟩) (m + 1) c, .int .i64 (i : Int), .int .i64 ((i + 1 : Nat) : Int)] w fun e w' => ∃ v0_ : Value, e = .returned v0_ ∧ Kd.R k48 48 w' base (fun k => k = g) v0_ (l.eraseIdx i) ∧ Below base w w' ∧ OnlyRow w w' g := by
  by_cases hci : c = i + 1
  · obtain rfl : i = m := by omega
    subst hci
    exact delete_near base g i L l hn w hlen hg hb hG hm hL ht
  · exact delete_far base g c m L l i hn hi hci w hlen hg hb hG hc hm hL ht
def api_Seat_71.f (l : List S48) (i j : Int) : Option (List S48) := if j = i + 1 ∧ 0 ≤ i ∧ i < l.length ∧ l.length < 1000000000000000000 then some (l.eraseIdx i.toNat) else none
theorem api_Seat_71.calls (P0_ : Nat → Prop) (v0 : Value) (l0 : List S48) (a1 a2 : Int) (r : List S48) (w0 w : World) (hb0 : Below w0.heap.size w0 w) (ho : Kd.R k48 48 w w0.heap.size P0_ v0 l0) (h : api_Seat_71.f l0 a1 a2 = some r) :
    Calls Try.prog 71 #[v0, .int .i64 a1, .int .i64 a2] w fun e w' => ∃ v_ : Value, e = .returned v_ ∧ Kd.R k48 48 w' w0.heap.size (fun k_ => P0_ k_ ∨ w.heap.size ≤ k_) v_ r ∧ Below w0.heap.size w0 w' ∧ Kept w w' P0_ := by
  unfold api_Seat_71.f at h
  split at h
  · rename_i hh
    obtain ⟨rfl, h0, h1, h2⟩ := hh
    obtain rfl := Option.some.inj h
    obtain ⟨i, rfl⟩ : ∃ i : Nat, a1 = (i : Int) := ⟨a1.toNat, by omega⟩
    obtain ⟨m, hm⟩ : ∃ m, l0.length = m + 1 := ⟨l0.length - 1, by omega⟩
    obtain ⟨A0, c0, rfl⟩ := Kd.R_slice ho
    have hP := ho.1
    obtain ⟨g, cur, rfl, hg, hG, hc, hmax, hs, ht⟩ := R_openS ho (by omega)
    have hPg : P0_ g := hP g rfl
    rw [Int.toNat_natCast, show (i : Int) + 1 = ((i + 1 : Nat) : Int) by omega]
    rw [hm] at ht hc h1 h2 ⊢
    refine (delete_any w0.heap.size g c0 m cur.toList l0 i hm (by omega) w (by omega) hg hb0.size (by rw [Array.toArray_toList]; exact hG) hc hmax (by rw [Array.length_toList]; exact hs) ht).mono ?_
    rintro e w' ⟨v, rfl, hR, hB, hO⟩
    exact ⟨v, rfl, Kd.R_mono hR (fun k hk => .inl (hk ▸ hPg)), hb0.trans hB, hO.1, fun j hj hn => hO.2 j hj (fun e => hn (e ▸ hPg))⟩
  · cases h
end Go.Proofs.Ytplngfammfdemaa
