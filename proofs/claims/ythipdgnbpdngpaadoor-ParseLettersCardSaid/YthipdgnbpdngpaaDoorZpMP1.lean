-- A copy of the text YthipdgnbpdngpaaDoorMP1 with what this claim does not reach left out (prune.py, a program of this project).
import Derived.Test.YthipdgnbpdngpaaDoorZpMP0
namespace Go.Proofs.YthipdgnbpdngpaaDoor
open Go.RowKit Go.Proofs.YthipdgnbpdngpaaDoorW.PrintWords S
set_option linter.unusedVariables false
set_option linter.unusedSimpArgs false
theorem firstL_err (l : List UInt8) : ((firstL l).2.2 = 2 ∧ l.length ≤ 3) ∨ ((firstL l).2.2 = 0 ∧ 1 ≤ l.length) ∨ ((firstL l).2.2 = 4 ∧ 1 ≤ (firstL l).2.1 ∧ (firstL l).2.1 ≤ l.length) := by
  unfold firstL
  split
  · exact .inl ⟨rfl, by omega⟩
  split
  · exact .inr (.inl ⟨rfl, by omega⟩)
  split
  · exact .inr (.inr ⟨rfl, by simp, by simp; omega⟩)
  split
  · exact .inl ⟨rfl, by omega⟩
  split
  · exact .inr (.inr ⟨rfl, by simp, by simp; omega⟩)
  split
  · exact .inr (.inl ⟨rfl, by omega⟩)
  split
  · exact .inl ⟨rfl, by omega⟩
  split
  · exact .inr (.inr ⟨rfl, by simp, by simp; omega⟩)
  split
  · exact .inr (.inl ⟨rfl, by omega⟩)
  split
  · exact .inl ⟨rfl, by omega⟩
  split
  · exact .inr (.inr ⟨rfl, by simp, by simp; omega⟩)
  · exact .inr (.inl ⟨rfl, by omega⟩)
/-- A parser that may be. -/
structure rightP (p : S52) : Prop where
  s0 : 0 ≤ p.f0
  s8 : p.f0 ≤ 8
  pn0 : p.f0 = 0 → (firstL p.f5.data.toList).2.2 = 2
  pn1 : p.f0 ≠ 0 → p.f5 = ⟨#[]⟩
  os0 : p.f0 = 6 → p.f4.size ≤ 64
  os1 : p.f0 ≠ 6 → p.f4 = ⟨#[]⟩
  cs0 : p.f0 = 3 ∨ p.f0 = 4 → (p.f1 = 0 ∨ (60 ≤ p.f1 ∧ p.f1 ≤ 63)) ∧ parOk p.f2
  cs1 : p.f0 ≠ 3 → p.f0 ≠ 4 → p.f1 = 0 ∧ p.f2 = []
  it0 : p.f0 = 2 ∨ p.f0 = 4 → 32 ≤ p.f3 ∧ p.f3 ≤ 47
  it1 : p.f0 ≠ 2 → p.f0 ≠ 4 → p.f3 = 0
theorem first_nil : (firstL (⟨#[]⟩ : ByteArray).data.toList).2.2 = 2 := by rfl
theorem parOk_nil : parOk [] := ⟨by simp, fun x hx => by simp at hx⟩
theorem right_to (n : Int) (h : n = 0 ∨ n = 1 ∨ n = 3 ∨ n = 5 ∨ n = 6 ∨ n = 7 ∨ n = 8) : rightP (toF n) := by
  refine ⟨?_, ?_, fun _ => first_nil, fun _ => rfl, fun _ => by simp [toF, ByteArray.size], fun _ => rfl, fun _ => ⟨.inl rfl, parOk_nil⟩, fun _ _ => ⟨rfl, rfl⟩, fun hh => ?_, fun _ _ => rfl⟩
  · show (0 : Int) ≤ n
    omega
  · show n ≤ 8
    omega
  · have : n = 2 ∨ n = 4 := hh
    omega
theorem right_parOk {p : S52} (h : rightP p) : parOk p.f2 := by
  by_cases h3 : p.f0 = 3 ∨ p.f0 = 4
  · exact (h.cs0 h3).2
  · rw [(h.cs1 (fun e => h3 (.inl e)) (fun e => h3 (.inr e))).2]; exact parOk_nil
theorem right_osc {p : S52} (h : rightP p) : p.f4.size ≤ 64 := by
  by_cases h3 : p.f0 = 6
  · exact h.os0 h3
  · rw [h.os1 h3]; simp [ByteArray.size]
theorem right_pend {p : S52} (h : rightP p) : p.f5.size ≤ 3 := by
  by_cases h3 : p.f0 = 0
  · have := h.pn0 h3
    rcases firstL_err p.f5.data.toList with ⟨_, hl⟩ | ⟨he, _⟩ | ⟨he, _⟩
    · rwa [len_size] at hl
    · omega
    · omega
  · rw [h.pn1 h3]; simp [ByteArray.size]
theorem right_pend0 {p : S52} (h : rightP p) (hn : p.f5.size ≠ 0) : p.f0 = 0 := Decidable.byContradiction fun h3 => hn (by rw [h.pn1 h3]; rfl)
/-- Without what is pending. -/
theorem right_clr {p : S52} (h : rightP p) : rightP (pendAs p ⟨#[]⟩) := ⟨h.s0, h.s8, fun _ => first_nil, fun _ => rfl, h.os0, h.os1, h.cs0, h.cs1, h.it0, h.it1⟩
theorem size_nil (s : ByteArray) (h : s.size = 0) : s = ⟨#[]⟩ := by
  cases s with
  | mk a => rw [show a = #[] from Array.eq_empty_of_size_eq_zero h]
theorem right_ends {p : S52} (h : rightP p) (c : Int) : rightP (endsP p c) := by
  unfold endsP
  split
  · exact h
  · exact right_to 0 (.inl rfl)
theorem ends_few (p : S52) (d : List S62) (c l : Int) : (endsD p d c l).length ≤ d.length + 1 := by
  unfold endsD
  split <;> simp
theorem right_inter {p : S52} (h : rightP p) (c : Int) : rightP (interP p c) := by
  unfold interP
  split
  · exact right_to 8 (by omega)
  · exact right_ends h c
theorem inter_few (p : S52) (d : List S62) (c : Int) : (interD p d c).length ≤ d.length + 1 := by
  unfold interD
  split
  · omega
  · exact ends_few p d c 48
theorem right_esc {p : S52} (h : rightP p) (d : List S62) (c : Int) : rightP (escR p d c).1 ∧ (escR p d c).2.length ≤ d.length + 1 := by
  unfold escR
  split
  · rename_i hc
    refine ⟨⟨(by show (0 : Int) ≤ 2; omega), (by show (2 : Int) ≤ 8; omega), fun hh => absurd (show (2 : Int) = 0 from hh) (by omega), fun _ => rfl, fun hh => absurd (show (2 : Int) = 6 from hh) (by omega), fun _ => rfl, fun hh => absurd (show (2 : Int) = 3 ∨ (2 : Int) = 4 from hh) (by omega), fun _ _ => ⟨rfl, rfl⟩, fun _ => (inB_iff _ _ _).1 hc, fun hh => absurd rfl hh⟩, Nat.le_succ _⟩
  split
  · exact ⟨right_to 3 (by omega), Nat.le_succ _⟩
  split
  · exact ⟨right_to 6 (by omega), Nat.le_succ _⟩
  split
  · exact ⟨right_to 7 (by omega), Nat.le_succ _⟩
  split
  · exact ⟨right_to 7 (by omega), Nat.le_succ _⟩
  split
  · exact ⟨right_to 7 (by omega), Nat.le_succ _⟩
  split
  · exact ⟨right_to 7 (by omega), Nat.le_succ _⟩
  · exact ⟨right_ends h c, ends_few p d c 48⟩
theorem right_behind {p : S52} (h : rightP p) (c : Int) : rightP (behindP p c) := by
  unfold behindP
  split
  · exact right_to 0 (by omega)
  split
  · exact h
  · exact right_to 5 (by omega)
theorem disp_few (p : S52) (d : List S62) (c : Int) : (dispD p d c).length ≤ d.length + 1 := by unfold dispD; simp
theorem behind_few (p : S52) (d : List S62) (c : Int) : (behindD p d c).length ≤ d.length + 1 := by
  unfold behindD
  split
  · exact disp_few p d c
  · omega
theorem right_skip {p : S52} (h : rightP p) (c : Int) : rightP (skipP p c) := by
  unfold skipP
  split
  · exact right_to 0 (by omega)
  · exact h
theorem right_drop {p : S52} (h : rightP p) (c : Int) : rightP (dropP p c) := by
  unfold dropP
  split
  · exact right_to 0 (by omega)
  split
  · exact right_to 0 (by omega)
  · exact h
theorem right_oscR {p : S52} (h : rightP p) (d : List S62) (c : Int) (h6 : p.f0 = 6) : rightP (oscR p d c).1 ∧ (oscR p d c).2.length ≤ d.length + 1 := by
  unfold oscR
  split
  · exact ⟨right_to 0 (by omega), by simp⟩
  split
  · rename_i hc
    refine ⟨⟨h.s0, h.s8, h.pn0, h.pn1, fun _ => ?_, fun hh => absurd h6 hh, h.cs0, h.cs1, h.it0, h.it1⟩, Nat.le_succ _⟩
    show (p.f4 ++ strOfNums [c]).size ≤ 64
    rw [ByteArray.size_append, strOfNums_size]
    have := hc.2
    simp
    omega
  · exact ⟨h, Nat.le_succ _⟩
theorem csiRow_ok {l : List Int} (h : parOk l) (c : Int) (hc : 48 ≤ c ∧ c ≤ 57) : parOk (csiRow l c) := by
  unfold csiRow
  refine ⟨by rw [List.length_set]; exact h.1, fun x hx => ?_⟩
  rcases List.mem_or_eq_of_mem_set hx with hx | rfl
  · exact h.2 x hx
  · have : 0 ≤ l.getD (l.length - 1) 0 := by
      rw [List.getD_eq_getElem?_getD]
      cases h9 : l[l.length - 1]? with
      | none => simp
      | some y => exact (h.2 y (List.mem_of_getElem? h9)).1
    omega
theorem right_csi {p : S52} (h : rightP p) (c : Int) (h3 : p.f0 = 3) : rightP (csiP p c) := by
  have hp := parF_ok (h.cs0 (.inl h3)).2
  have hpos := parF_pos p.f2
  have hf1 := (h.cs0 (.inl h3)).1
  unfold csiP
  split
  · rename_i hc
    exact ⟨h.s0, h.s8, h.pn0, h.pn1, h.os0, h.os1, fun _ => ⟨hf1, csiRow_ok hp c ((inB_iff _ _ _).1 hc)⟩, fun hh => absurd h3 hh, h.it0, h.it1⟩
  split
  · unfold csiSemi
    split
    · exact right_to 5 (by omega)
    · rename_i hl
      refine ⟨h.s0, h.s8, h.pn0, h.pn1, h.os0, h.os1, fun _ => ⟨hf1, ?_⟩, fun hh => absurd h3 hh, h.it0, h.it1⟩
      refine ⟨?_, fun x hx => ?_⟩
      · show (parF p.f2 ++ [0]).length ≤ 16
        have := hp.1
        simp
        omega
      · have hx' : x ∈ parF p.f2 ++ [0] := hx
        rcases List.mem_append.1 hx' with hx | hx
        · exact hp.2 x hx
        · simp at hx; omega
  split
  · rename_i hc
    have := (inB_iff _ _ _).1 hc.1
    exact ⟨h.s0, h.s8, h.pn0, h.pn1, h.os0, h.os1, fun _ => ⟨.inr this, (h.cs0 (.inl h3)).2⟩, fun hh => absurd h3 hh, h.it0, h.it1⟩
  split
  · rename_i hc
    have := (inB_iff _ _ _).1 hc
    exact ⟨(by show (0 : Int) ≤ 4; omega), (by show (4 : Int) ≤ 8; omega), fun hh => absurd (show (4 : Int) = 0 from hh) (by omega), fun _ => h.pn1 (by omega), fun hh => absurd (show (4 : Int) = 6 from hh) (by omega), fun _ => h.os1 (by omega), fun _ => ⟨hf1, (h.cs0 (.inl h3)).2⟩, fun _ hh => absurd rfl hh, fun _ => this, fun _ hh => absurd rfl hh⟩
  split
  · exact right_to 0 (by omega)
  split
  · exact h
  · exact right_to 5 (by omega)
theorem csi_few (p : S52) (d : List S62) (c : Int) : (csiD p d c).length ≤ d.length + 1 := by
  unfold csiD
  split
  · exact disp_few p d c
  · omega
/-- What take makes may be; it grows by one at most. -/
def Fine (p : S52) (d : List S62) (p' : S52) (d' : List S62) : Prop := rightP p' ∧ p'.f5.size ≤ p.f5.size + 1 ∧ d'.length + p'.f5.size ≤ d.length + p.f5.size + 1
theorem fine_of {p p' : S52} {d d' : List S62} (h : rightP p') (h0 : p'.f0 ≠ 0 ∨ p'.f5.size = 0 ∨ p'.f5 = p.f5) (hd : d'.length ≤ d.length + 1) (hp : p.f5.size = 0) : Fine p d p' d' := by
  have h5 : p'.f5.size = 0 := by
    rcases h0 with h0 | h0 | h0
    · rw [h.pn1 h0]; rfl
    · exact h0
    · rw [h0]; exact hp
  exact ⟨h, by omega, by omega⟩
/-- What pending makes of a parser: with this much fuel. -/
def PendFine (pend : S52 → List S62 → S52 × List S62) (k : Nat) : Prop :=
  ∀ (p : S52) (d : List S62), rightP (pendAs p ⟨#[]⟩) → p.f0 = 0 → p.f5.size ≤ k → rightP (pend p d).1 ∧ (pend p d).1.f5.size ≤ p.f5.size ∧ (pend p d).2.length + (pend p d).1.f5.size ≤ d.length + p.f5.size
theorem app_size (s : ByteArray) (c : Int) : (s ++ strOfNums [c]).size = s.size + 1 := by rw [ByteArray.size_append, strOfNums_size]; rfl
theorem state_fine {pend : S52 → List S62 → S52 × List S62} {k : Nat} (hP : PendFine pend k) (hk : 1 ≤ k) (p : S52) (d : List S62) (c : Int) (h : rightP p) (h5 : p.f5.size = 0) : Fine p d (stateR pend p d c).1 (stateR pend p d c).2 := by
  unfold stateR
  split
  · rename_i h0
    unfold groundR
    split
    · obtain ⟨a1, a2, a3⟩ := hP (pendAs p (strOfNums [c])) d (right_clr (p := p) h) h0 (by show (strOfNums [c]).size ≤ k; rw [strOfNums_size]; exact hk)
      have : (pendAs p (strOfNums [c])).f5.size = 1 := by show (strOfNums [c]).size = 1; rw [strOfNums_size]; rfl
      exact ⟨a1, by omega, by omega⟩
    split
    · exact fine_of h (.inr (.inr rfl)) (by simp) h5
    · exact fine_of h (.inr (.inr rfl)) (Nat.le_succ _) h5
  split
  · obtain ⟨a, b⟩ := right_esc h d c
    refine fine_of a ?_ b h5
    unfold escR
    repeat' split
    any_goals exact .inr (.inl rfl)
    show (endsP p c).f0 ≠ 0 ∨ (endsP p c).f5.size = 0 ∨ (endsP p c).f5 = p.f5
    unfold endsP
    split
    · exact .inr (.inr rfl)
    · exact .inr (.inl rfl)
  split
  · refine fine_of (right_inter h c) ?_ (inter_few p d c) h5
    show (interP p c).f0 ≠ 0 ∨ (interP p c).f5.size = 0 ∨ (interP p c).f5 = p.f5
    unfold interP endsP
    repeat' split
    all_goals first | exact .inr (.inr rfl) | exact .inr (.inl rfl)
  split
  · rename_i h3
    refine fine_of (right_csi h c h3) ?_ (csi_few p d c) h5
    show (csiP p c).f0 ≠ 0 ∨ (csiP p c).f5.size = 0 ∨ (csiP p c).f5 = p.f5
    unfold csiP csiSemi
    repeat' split
    all_goals first | exact .inr (.inr rfl) | exact .inr (.inl rfl)
  split
  · refine fine_of (right_behind h c) ?_ (behind_few p d c) h5
    show (behindP p c).f0 ≠ 0 ∨ (behindP p c).f5.size = 0 ∨ (behindP p c).f5 = p.f5
    unfold behindP
    repeat' split
    all_goals first | exact .inr (.inr rfl) | exact .inr (.inl rfl)
  split
  · refine fine_of (right_skip h c) ?_ (Nat.le_succ _) h5
    show (skipP p c).f0 ≠ 0 ∨ (skipP p c).f5.size = 0 ∨ (skipP p c).f5 = p.f5
    unfold skipP
    repeat' split
    all_goals first | exact .inr (.inr rfl) | exact .inr (.inl rfl)
  split
  · rename_i h6
    obtain ⟨a, b⟩ := right_oscR h d c h6
    refine fine_of a ?_ b h5
    unfold oscR
    repeat' split
    all_goals first | exact .inr (.inr rfl) | exact .inr (.inl rfl)
  split
  · exact fine_of h (.inr (.inr rfl)) (Nat.le_succ _) h5
  · refine fine_of (right_drop h c) ?_ (Nat.le_succ _) h5
    show (dropP p c).f0 ≠ 0 ∨ (dropP p c).f5.size = 0 ∨ (dropP p c).f5 = p.f5
    unfold dropP
    repeat' split
    all_goals first | exact .inr (.inr rfl) | exact .inr (.inl rfl)
theorem take_fine {pend : S52 → List S62 → S52 × List S62} {k : Nat} (hP : PendFine pend k) (p : S52) (d : List S62) (c : Int) (h : rightP p) (h5 : p.f5.size + 1 ≤ k) : Fine p d (takeR pend p d c).1 (takeR pend p d c).2 := by
  unfold takeR
  split
  · rename_i hn
    have h9 : (pendAs p (p.f5 ++ strOfNums [c])).f5.size = p.f5.size + 1 := app_size p.f5 c
    obtain ⟨a1, a2, a3⟩ := hP (pendAs p (p.f5 ++ strOfNums [c])) d (right_clr (p := p) h) (right_pend0 (p := p) h hn) (by omega)
    exact ⟨a1, by omega, by omega⟩
  rename_i hn
  have hn : p.f5.size = 0 := Decidable.not_not.1 hn
  split
  · refine fine_of (right_to 0 (.inl rfl)) (.inr (.inl rfl)) ?_ hn
    show (if p.f0 = 6 ∨ p.f0 = 7 then d else d ++ [ex c]).length ≤ d.length + 1
    split <;> simp
  split
  · refine fine_of (right_to 1 (by omega)) (.inr (.inl rfl)) ?_ hn
    show (if p.f0 = 6 then d ++ [oscDo p.f4] else d).length ≤ d.length + 1
    split <;> simp
  split
  · exact fine_of h (.inr (.inr rfl)) (by simp) hn
  · exact state_fine hP (by omega) p d c h hn
theorem run_fine {pend : S52 → List S62 → S52 × List S62} {k : Nat} (hP : PendFine pend k) (l : List UInt8) : ∀ (st : S52 × List S62), rightP st.1 → st.1.f5.size + l.length ≤ k →
    rightP (l.foldl (fun s b => takeR pend s.1 s.2 (b.toNat : Int)) st).1 ∧ (l.foldl (fun s b => takeR pend s.1 s.2 (b.toNat : Int)) st).1.f5.size ≤ st.1.f5.size + l.length ∧
    (l.foldl (fun s b => takeR pend s.1 s.2 (b.toNat : Int)) st).2.length + (l.foldl (fun s b => takeR pend s.1 s.2 (b.toNat : Int)) st).1.f5.size ≤ st.2.length + st.1.f5.size + l.length := by
  induction l with
  | nil => intro st h _; exact ⟨h, by simp, by simp⟩
  | cons b l ih =>
    intro st h hk
    simp only [List.length_cons] at hk
    obtain ⟨a1, a2, a3⟩ := take_fine hP st.1 st.2 (b.toNat : Int) h (by omega)
    obtain ⟨b1, b2, b3⟩ := ih (takeR pend st.1 st.2 (b.toNat : Int)) a1 (by omega)
    simp only [List.foldl_cons, List.length_cons]
    exact ⟨b1, by omega, by omega⟩
theorem pend_fine : ∀ k, PendFine (pendR k) k := by
  intro k
  induction k with
  | zero =>
    intro p d h h0 hs
    have h5 : p.f5 = ⟨#[]⟩ := size_nil _ (by omega)
    have hp : pendAs p ⟨#[]⟩ = p := by cases p; simp only [pendAs]; simp only at h5; rw [h5]
    rw [hp] at h
    exact ⟨h, Nat.le_refl _, Nat.le_refl _⟩
  | succ k ih =>
    intro p d h h0 hs
    unfold pendR
    rcases firstL_err p.f5.data.toList with ⟨he, hl⟩ | ⟨he, hl⟩ | ⟨he, hl, hm⟩
    · rw [if_pos he]
      exact ⟨⟨h.s0, h.s8, fun _ => he, fun hh => absurd h0 hh, h.os0, h.os1, h.cs0, h.cs1, h.it0, h.it1⟩, Nat.le_refl _, Nat.le_refl _⟩
    · rw [if_neg (by omega), if_pos he]
      rw [len_size] at hl
      refine ⟨h, Nat.zero_le _, ?_⟩
      show (if 160 ≤ (firstL p.f5.data.toList).1 then d ++ [pr (firstL p.f5.data.toList).1] else d).length + 0 ≤ d.length + p.f5.size
      split
      · simp; omega
      · omega
    · rw [if_neg (by omega), if_neg (by omega)]
      have hlen : (p.f5.data.toList.drop (firstL p.f5.data.toList).2.1.toNat).length ≤ p.f5.size - 1 := by rw [List.length_drop, len_size]; omega
      have hps : 1 ≤ p.f5.size := by rw [len_size] at hm; omega
      obtain ⟨b1, b2, b3⟩ := run_fine ih (p.f5.data.toList.drop (firstL p.f5.data.toList).2.1.toNat) (pendAs p ⟨#[]⟩, d ++ [pr 65533]) h (by show 0 + _ ≤ k; omega)
      have e0 : ((pendAs p ⟨#[]⟩, d ++ [pr 65533]) : S52 × List S62).1.f5.size = 0 := rfl
      have e1 : ((pendAs p ⟨#[]⟩, d ++ [pr 65533]) : S52 × List S62).2.length = d.length + 1 := by simp
      rw [e0] at b2 b3
      rw [e1] at b3
      exact ⟨b1, by omega, by omega⟩
end Go.Proofs.YthipdgnbpdngpaaDoor
