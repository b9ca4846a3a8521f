/- A look behind what is asked: cell's answer and the document's are the same. -/
import Derived.Test.YthipdgnbpdngpaaMOne
namespace Go.Proofs.Ythipdgnbpdngpaa
set_option linter.unusedVariables false
set_option linter.unusedSimpArgs false
open Go.RowKit Go.Proofs.YthipdgnbpdngpaaW.PrintWords Go.Proofs.YthipdgnbpdngpaaW.PrintLast Go.Proofs.YthipdgnbpdngpaaW.PrintMore P
theorem rd_drop (l : List Int) (i j : Nat) : rd (l.drop i) (j : Int) = rd l ((i + j : Nat) : Int) := by
  unfold rd
  rw [Int.toNat_natCast, Int.toNat_natCast, List.getD_eq_getElem?_getD, List.getElem?_drop, List.getD_eq_getElem?_getD]
theorem rd_at (l : List Int) (i : Nat) (h : i < l.length) : rd l (i : Int) ∈ l := by
  unfold rd
  rw [Int.toNat_natCast, List.getD_eq_getElem?_getD, List.getElem?_eq_getElem h]
  exact List.getElem_mem h
theorem c_l0 (k : Nat) (y : List Int) (fg bg fl : Int) : cell_Change.l0 (k + 1) y fg bg fl = if y.length = 0 then some (fg, bg, fl, 0) else cell_Change.j2 k (y.drop 1) (rd y 0) (decide (rd y 0 ≠ 38 ∧ rd y 0 ≠ 48)) fg bg fl := by
  rw [cell_Change.l0]
  by_cases h : y.length = 0
  · rw [if_neg (by omega), if_pos h]
  · rw [if_pos (by omega), if_pos (by omega), if_pos (by omega), if_neg h, Option.bind_some]
    by_cases h8 : rd y 0 = 38
    · rw [if_pos h8]; simp [h8]
    · rw [if_neg h8]
      by_cases h48 : rd y 0 = 48
      · simp [h8, h48]
      · simp [h8, h48, bne_iff_ne.2 h48]
theorem c_j2t (k : Nat) (y : List Int) (n fg bg fl : Int) : cell_Change.j2 (k + 1) y n true fg bg fl = (cell_one.f k fg bg fl n).bind fun b => cell_Change.l0 k y b.1 b.2.1 b.2.2 := by
  rw [cell_Change.j2, if_pos rfl]
/-- What follows 38 or 48 is a colour. -/
def isCol (y : List Int) : Bool := decide (2 ≤ y.length) && (decide (rd y 0 = 5) && (decide (0 ≤ rd y 1) && decide (rd y 1 ≤ 255)))
theorem c_j2f (k : Nat) (y : List Int) (n fg bg fl : Int) : cell_Change.j2 (k + 1) y n false fg bg fl = cell_Change.j3 k y n (!isCol y) fg bg fl := by
  rw [cell_Change.j2, if_neg (by decide)]
  unfold isCol
  by_cases h : y.length < 2
  · rw [if_pos (by omega)]; simp [show ¬ 2 ≤ y.length by omega]
  · rw [if_neg (by omega), if_pos (by omega)]
    by_cases h5 : rd y 0 = 5
    · rw [if_pos h5, if_pos (by omega), in_eq, Option.bind_some]; simp [h5, show 2 ≤ y.length by omega]
    · rw [if_neg h5]; simp [h5]
theorem c_j3t (k : Nat) (y : List Int) (n fg bg fl : Int) : cell_Change.j3 (k + 1) y n true fg bg fl = some (fg, bg, fl, 0) := by
  rw [cell_Change.j3, if_pos rfl]
theorem c_j3f (k : Nat) (y : List Int) (n fg bg fl : Int) (h : 2 ≤ y.length) : cell_Change.j3 (k + 1) y n false fg bg fl = cell_Change.l0 k (y.drop 2) (if n = 38 then wrap64 (rd y 1 + 1) else fg) (if n = 38 then bg else wrap64 (rd y 1 + 1)) fl := by
  rw [cell_Change.j3, if_neg (by decide)]
  by_cases hn : n = 38
  · rw [if_pos hn, if_pos (by omega), if_pos (by omega), if_pos hn, if_pos hn]
  · rw [if_neg hn, if_pos (by omega), if_pos (by omega), if_neg hn, if_neg hn]
theorem r_l0 (k : Nat) (l : List Int) (i : Nat) (fg bg fl : Int) : backseatref04_Change.l0 (k + 1) l (i : Int) fg bg fl = if i < l.length then backseatref04_Change.j1 k l (i : Int) (rd l (i : Int)) (decide (rd l (i : Int) ≠ 38 ∧ rd l (i : Int) ≠ 48)) fg bg fl else some (fg, bg, fl) := by
  rw [backseatref04_Change.l0]
  by_cases h : i < l.length
  · rw [if_pos (by omega), if_pos (by omega), if_pos h]
    by_cases h8 : rd l i = 38
    · rw [if_pos h8]; simp [h8]
    · rw [if_neg h8]
      by_cases h48 : rd l i = 48
      · simp [h8, h48]
      · simp [h8, h48, bne_iff_ne.2 h48]
  · rw [if_neg (by omega), if_neg h]
theorem r_j1t (k : Nat) (l : List Int) (i : Nat) (n fg bg fl : Int) (hi : i < 100) : backseatref04_Change.j1 (k + 1) l (i : Int) n true fg bg fl = (backseatref04_one.f k fg bg fl n).bind fun b => backseatref04_Change.l0 k l ((i + 1 : Nat) : Int) b.1 b.2.1 b.2.2 := by
  rw [backseatref04_Change.j1, if_pos rfl, w64 (by omega) (by omega)]
  rfl
theorem r_j1f (k : Nat) (l : List Int) (i : Nat) (n fg bg fl : Int) (hi : i < l.length) (hl : l.length < 100) : backseatref04_Change.j1 (k + 1) l (i : Int) n false fg bg fl = backseatref04_Change.j2 k l (i : Int) n (!isCol (l.drop (i + 1))) fg bg fl := by
  rw [backseatref04_Change.j1, if_neg (by decide), w64 (n := (i : Int) + 2) (by omega) (by omega), w64 (n := (i : Int) + 1) (by omega) (by omega)]
  unfold isCol
  have e0 := rd_drop l (i + 1) 0
  have e1 := rd_drop l (i + 1) 1
  rw [show ((0 : Nat) : Int) = 0 from rfl, show ((i + 1 + 0 : Nat) : Int) = (i : Int) + 1 from by omega] at e0
  rw [show ((1 : Nat) : Int) = 1 from rfl, show ((i + 1 + 1 : Nat) : Int) = (i : Int) + 2 from by omega] at e1
  rw [e0, e1, List.length_drop]
  by_cases h : (i : Int) + 2 ≥ l.length
  · rw [if_pos h]; simp [show ¬ 2 ≤ l.length - (i + 1) by omega]
  · rw [if_neg h, if_pos (by omega), if_pos (by omega)]
    by_cases h5 : rd l ((i : Int) + 1) = 5
    · rw [if_pos h5, if_pos (by omega), if_pos (by omega), rin_eq, Option.bind_some]; simp [h5, show 2 ≤ l.length - (i + 1) by omega]
    · rw [if_neg h5]; simp [h5]
theorem r_j2t (k : Nat) (l : List Int) (i n fg bg fl : Int) : backseatref04_Change.j2 (k + 1) l i n true fg bg fl = some (fg, bg, fl) := by
  rw [backseatref04_Change.j2, if_pos rfl]
theorem r_j2f (k : Nat) (l : List Int) (i : Nat) (n fg bg fl : Int) (h : i + 2 < l.length) (hl : l.length < 100) : backseatref04_Change.j2 (k + 1) l (i : Int) n false fg bg fl = backseatref04_Change.l0 k l ((i + 3 : Nat) : Int) (if n = 38 then wrap64 (rd (l.drop (i + 1)) 1 + 1) else fg) (if n = 38 then bg else wrap64 (rd (l.drop (i + 1)) 1 + 1)) fl := by
  have e1 := rd_drop l (i + 1) 1
  rw [show ((1 : Nat) : Int) = 1 from rfl, show ((i + 1 + 1 : Nat) : Int) = (i : Int) + 2 from by omega] at e1
  rw [backseatref04_Change.j2, if_neg (by decide), w64 (n := (i : Int) + 2) (by omega) (by omega), w64 (n := (i : Int) + 3) (by omega) (by omega), e1]
  by_cases hn : n = 38
  · rw [if_pos hn, if_pos (by omega), if_pos (by omega), if_pos hn, if_pos hn]; rfl
  · rw [if_neg hn, if_pos (by omega), if_pos (by omega), if_neg hn, if_neg hn]; rfl
theorem change_loop : ∀ (m : Nat) (l : List Int) (i : Nat) (fg bg fl : Int), l.length - i ≤ m → l.length < 100 → (∀ n ∈ l, (Lit.int .i64 n).wf = true) → look fg bg fl = true →
    ∃ r : Int × Int × Int, Ev (fun k => cell_Change.l0 k (l.drop i) fg bg fl) (r.1, r.2.1, r.2.2, 0) ∧ Ev (fun k => backseatref04_Change.l0 k l (i : Int) fg bg fl) r := by
  intro m
  induction m with
  | zero =>
    intro l i fg bg fl hm hl hw hk
    refine ⟨(fg, bg, fl), Ev.succ (Ev.const _) (fun k => ?_), Ev.succ (Ev.const _) (fun k => ?_)⟩
    · rw [c_l0, if_pos (by rw [List.length_drop]; omega)]
    · rw [r_l0, if_neg (by omega)]
  | succ m ih =>
    intro l i fg bg fl hm hl hw hk
    by_cases hi : i < l.length
    · have e0 := rd_drop l i 0
      rw [show ((0 : Nat) : Int) = 0 from rfl, Nat.add_zero] at e0
      have hc : ∀ k, cell_Change.l0 (k + 1) (l.drop i) fg bg fl = cell_Change.j2 k (l.drop (i + 1)) (rd l i) (decide (rd l i ≠ 38 ∧ rd l i ≠ 48)) fg bg fl := fun k => by
        rw [c_l0, if_neg (by rw [List.length_drop]; omega), List.drop_drop, e0]
      have hr : ∀ k, backseatref04_Change.l0 (k + 1) l (i : Int) fg bg fl = backseatref04_Change.j1 k l (i : Int) (rd l (i : Int)) (decide (rd l (i : Int) ≠ 38 ∧ rd l (i : Int) ≠ 48)) fg bg fl := fun k => by
        rw [r_l0, if_pos hi]
      by_cases hn : rd l (i : Int) ≠ 38 ∧ rd l (i : Int) ≠ 48
      · obtain ⟨q, q1, q2, q3⟩ := one_eq fg bg fl (rd l (i : Int)) (hw _ (rd_at l i hi)) hk
        obtain ⟨r, r1, r2⟩ := ih l (i + 1) q.1 q.2.1 q.2.2 (by omega) hl hw q3
        rw [decide_eq_true hn] at hc hr
        exact ⟨r, Ev.succ (Ev.succ (Ev.bind (G := fun k b => cell_Change.l0 k (l.drop (i + 1)) b.1 b.2.1 b.2.2) q1 r1) (fun k => c_j2t k _ _ _ _ _)) hc, Ev.succ (Ev.succ (Ev.bind (G := fun k b => backseatref04_Change.l0 k l ((i + 1 : Nat) : Int) b.1 b.2.1 b.2.2) q2 r2) (fun k => r_j1t k _ _ _ _ _ _ (by omega))) hr⟩
      · rw [decide_eq_false hn] at hc hr
        cases hcol : isCol (l.drop (i + 1)) with
        | false =>
          refine ⟨(fg, bg, fl), Ev.succ (Ev.succ (Ev.succ (Ev.const _) (G := fun k => cell_Change.j3 k (l.drop (i + 1)) (rd l i) true fg bg fl) (fun k => c_j3t k (l.drop (i + 1)) (rd l i) fg bg fl)) (fun k => ?_)) hc, Ev.succ (Ev.succ (Ev.succ (Ev.const _) (G := fun k => backseatref04_Change.j2 k l i (rd l i) true fg bg fl) (fun k => r_j2t k l i (rd l i) fg bg fl)) (fun k => ?_)) hr⟩
          · rw [c_j2f, hcol]; rfl
          · rw [r_j1f _ _ _ _ _ _ _ hi hl, hcol]; rfl
        | true =>
          have hc2 := hcol
          unfold isCol at hc2
          simp only [Bool.and_eq_true, decide_eq_true_eq, List.length_drop] at hc2
          obtain ⟨c2, _, c3, c4⟩ := hc2
          obtain ⟨f1, f2, f3⟩ := look_iff.1 hk
          obtain ⟨r, r1, r2⟩ := ih l (i + 3) (if rd l i = 38 then wrap64 (rd (l.drop (i + 1)) 1 + 1) else fg) (if rd l i = 38 then bg else wrap64 (rd (l.drop (i + 1)) 1 + 1)) fl (by omega) hl hw (look_iff.2 ⟨by
            rw [w64 (by omega) (by omega)]; split <;> omega, by rw [w64 (by omega) (by omega)]; split <;> omega, f3⟩)
          refine ⟨r, Ev.succ (Ev.succ (Ev.succ r1 (G := fun k => cell_Change.j3 k (l.drop (i + 1)) (rd l i) false fg bg fl) (fun k => ?_)) (fun k => ?_)) hc, Ev.succ (Ev.succ (Ev.succ r2 (G := fun k => backseatref04_Change.j2 k l i (rd l i) false fg bg fl) (fun k => r_j2f k l i (rd l i) fg bg fl (by omega) hl)) (fun k => ?_)) hr⟩
          · rw [c_j3f _ _ _ _ _ _ (by rw [List.length_drop]; omega), List.drop_drop]
          · rw [c_j2f, hcol]; rfl
          · rw [r_j1f _ _ _ _ _ _ _ hi hl, hcol]; rfl
    · refine ⟨(fg, bg, fl), Ev.succ (Ev.const _) (fun k => ?_), Ev.succ (Ev.const _) (fun k => ?_)⟩
      · rw [c_l0, if_pos (by rw [List.length_drop]; omega)]
      · rw [r_l0, if_neg (by omega)]
/-- Change, of any look and any numbers. -/
theorem change_eq (fg bg fl : Int) (l : List Int) (hl : l.length < 100) (hw : ∀ n ∈ l, (Lit.int .i64 n).wf = true) : (look fg bg fl = false → Ev (fun k => cell_Change.f k fg bg fl l) (0, 0, 0, 1)) ∧
    (look fg bg fl = true → ∃ r : Int × Int × Int, Ev (fun k => cell_Change.f k fg bg fl l) (r.1, r.2.1, r.2.2, 0) ∧ Ev (fun k => backseatref04_Change.f k fg bg fl l) r) := by
  refine ⟨fun h => ⟨0, fun k _ => ?_⟩, fun h => ?_⟩
  · show cell_Change.f k fg bg fl l = _
    unfold cell_Change.f
    rw [look_eq, h, Option.bind_some, if_neg (by decide)]
  · by_cases h0 : l.length = 0
    · obtain rfl := List.length_eq_zero_iff.1 h0
      refine ⟨(0, 0, 0), Ev.of (fun k => cell_Change.mono _ _ _ _ k) 10 ?_, ⟨0, fun k _ => by show backseatref04_Change.f k fg bg fl [] = _; unfold backseatref04_Change.f; rw [if_pos (by rfl)]⟩⟩
      unfold cell_Change.f
      rw [look_eq, h, Option.bind_some, if_pos rfl, if_pos (by rfl), show (10 : Nat) = 9 + 1 from rfl, cell_Change.j0, show (9 : Nat) = 8 + 1 from rfl, c_l0, if_neg (by decide)]
      rw [show (decide (rd [0] 0 ≠ 38 ∧ rd [0] 0 ≠ 48)) = true from by decide, show (8 : Nat) = 7 + 1 from rfl, c_j2t]
      have e : cell_one.f 7 fg bg fl (rd [0] 0) = some (0, 0, 0) := by unfold cell_one.f; rw [if_pos (by decide)]
      rw [e, Option.bind_some, show (7 : Nat) = 6 + 1 from rfl, c_l0, if_pos (by decide)]
    · obtain ⟨r, r1, r2⟩ := change_loop l.length l 0 fg bg fl (by omega) hl hw h
      refine ⟨r, ?_, ?_⟩
      · obtain ⟨k0, r1⟩ := r1
        refine ⟨k0 + 1, fun k hk => ?_⟩
        obtain ⟨k, rfl⟩ : ∃ j, k = j + 1 := ⟨k - 1, by omega⟩
        show cell_Change.f (k + 1) fg bg fl l = _
        unfold cell_Change.f
        rw [look_eq, h, Option.bind_some, if_pos rfl, if_neg (by omega), cell_Change.j0]
        exact r1 k (by omega)
      · refine Ev.congr r2 (fun k => ?_)
        unfold backseatref04_Change.f
        rw [if_neg (by omega)]
        rfl
theorem alive_ev : Ev (fun k => backseatlaw04_alive.f k) true := Ev.of (fun k => backseatlaw04_alive.mono k) 20 (by decide +kernel)
end Go.Proofs.Ythipdgnbpdngpaa
