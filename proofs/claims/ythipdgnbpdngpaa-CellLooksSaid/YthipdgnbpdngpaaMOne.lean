/- One number behind a look: cell's answer and the document's are the same, and a look stays one. -/
import Derived.Test.YthipdgnbpdngpaaPx10
namespace Go.Proofs.Ythipdgnbpdngpaa
set_option linter.unusedVariables false
set_option linter.unusedSimpArgs false
open Go.RowKit Go.Proofs.YthipdgnbpdngpaaW.PrintWords Go.Proofs.YthipdgnbpdngpaaW.PrintLast Go.Proofs.YthipdgnbpdngpaaW.PrintMore P
/-- From some number of rounds on, the answer is r. -/
def Ev {α : Type} (F : Nat → Option α) (r : α) : Prop := ∃ k0, ∀ k, k0 ≤ k → F k = some r
theorem Ev.of {α : Type} {F : Nat → Option α} {r : α} (hm : ∀ k, LeO (F k) (F (k + 1))) (k0 : Nat) (h : F k0 = some r) : Ev F r := by
  refine ⟨k0, fun k hk => ?_⟩
  obtain ⟨d, rfl⟩ : ∃ d, k = k0 + d := ⟨k - k0, by omega⟩
  clear hk
  induction d with
  | zero => exact h
  | succ n ih => exact hm _ r ih
theorem Ev.const {α : Type} (r : α) : Ev (fun _ => some r) r := ⟨0, fun _ _ => rfl⟩
theorem Ev.bind {α β : Type} {F : Nat → Option α} {G : Nat → α → Option β} {r : α} {q : β} (h : Ev F r) (g : Ev (fun k => G k r) q) : Ev (fun k => (F k).bind (G k)) q := by
  obtain ⟨k0, h⟩ := h
  obtain ⟨k1, g⟩ := g
  exact ⟨max k0 k1, fun k hk => by show (F k).bind (G k) = _; rw [h k (by omega)]; exact g k (by omega)⟩
theorem Ev.succ {α : Type} {F G : Nat → Option α} {r : α} (h : Ev F r) (e : ∀ k, G (k + 1) = F k) : Ev G r := by
  obtain ⟨k0, h⟩ := h
  refine ⟨k0 + 1, fun k hk => ?_⟩
  obtain ⟨k, rfl⟩ : ∃ j, k = j + 1 := ⟨k - 1, by omega⟩
  rw [e]
  exact h k (by omega)
theorem Ev.congr {α : Type} {F G : Nat → Option α} {r : α} (h : Ev F r) (e : ∀ k, G k = F k) : Ev G r := by
  obtain ⟨k0, h⟩ := h
  exact ⟨k0, fun k hk => by rw [e]; exact h k hk⟩
/-- A look that may be. -/
def look (fg bg fl : Int) : Bool := decide (0 ≤ fg) && decide (fg ≤ 256) && (decide (0 ≤ bg) && decide (bg ≤ 256)) && (decide (0 ≤ fl) && decide (fl ≤ 255))
theorem in_eq (a b c : Int) : cell_in.f a b c = some (decide (b ≤ a) && decide (a ≤ c)) := by
  unfold cell_in.f
  by_cases h : a ≥ b <;> simp [h]
theorem rin_eq (a b c : Int) : backseatref04_in.f a b c = some (decide (b ≤ a) && decide (a ≤ c)) := by
  unfold backseatref04_in.f
  by_cases h : a ≥ b <;> simp [h]
theorem look_eq (fg bg fl : Int) : cell_Look.f fg bg fl = some (look fg bg fl) := by
  unfold cell_Look.f look
  simp only [in_eq, Option.bind_some]
  cases (decide (0 ≤ fg) && decide (fg ≤ 256)) <;> cases (decide (0 ≤ bg) && decide (bg ≤ 256)) <;> simp
theorem rlook_eq (fg bg fl : Int) : backseatref04_Look.f fg bg fl = some (look fg bg fl) := by
  unfold backseatref04_Look.f look
  simp only [rin_eq, Option.bind_some]
  cases (decide (0 ≤ fg) && decide (fg ≤ 256)) <;> cases (decide (0 ≤ bg) && decide (bg ≤ 256)) <;> simp
/-- The flags behind one number. -/
def flagsA (fl n : Int) : Option Int := (slices_Index_int_int.f 12 [1, 2, 3, 4, 5, 7, 8, 9] n).bind fun i => some (Go.bits .andNot .i64 (if i ≥ 0 then Go.bits .or .i64 fl (shl .i64 1 i) else fl) (cell_clears.at n))
def flagsB (fl n : Int) : Option Int := (backseatref04_flag.f n).bind fun f => (backseatref04_without.f 12 fl f).bind fun x => (backseatref04_cleared.f n).bind fun c => backseatref04_without.f 12 (wrap64 (x + f)) c
def okF (fl n : Int) : Bool := match flagsA fl n, flagsB fl n with | some a, some b => a == b && decide (0 ≤ a) && decide (a ≤ 255) | _, _ => false
theorem all_small : ((List.range 256).all fun fl => (List.range 30).all fun n => okF fl n) = true := by decide +kernel
theorem all_none : ((List.range 256).all fun fl => (match backseatref04_without.f 12 fl 0 with | some a => a == (fl : Int) | none => false) && Go.bits .andNot .i64 fl 0 == (fl : Int)) = true := by decide +kernel
theorem w64 {n : Int} (h0 : -1000000000000000000 ≤ n) (h1 : n ≤ 1000000000000000000) : wrap64 n = n := by unfold wrap64; omega
theorem idx_none {n : Int} (h : n < 0 ∨ 30 ≤ n) : slices_Index_int_int.f 12 [1, 2, 3, 4, 5, 7, 8, 9] n = some (-1) := by
  have e : ∀ m : Int, 0 ≤ m → m < 30 → ¬ n = m := fun m _ _ => by omega
  unfold slices_Index_int_int.f
  simp [slices_Index_int_int.l0, rd, wrap64, e]
theorem clears_none {n : Int} (h : n < 0 ∨ 30 ≤ n) : cell_clears.at n = 0 := by
  unfold cell_clears.at
  repeat' split
  all_goals omega
theorem rflag_none {n : Int} (h : n < 0 ∨ 30 ≤ n) : backseatref04_flag.f n = some 0 := by
  unfold backseatref04_flag.f
  rw [rin_eq, Option.bind_some, if_neg (by simp; omega)]
theorem rcleared_none {n : Int} (h : n < 0 ∨ 30 ≤ n) : backseatref04_cleared.f n = some 0 := by
  unfold backseatref04_cleared.f
  rw [rin_eq, Option.bind_some, if_neg (by simp; omega)]
/-- The flags behind one number: both tell the same ones. -/
theorem flags_eq (fl n : Int) (h0 : 0 ≤ fl) (h1 : fl ≤ 255) : ∃ a, flagsA fl n = some a ∧ flagsB fl n = some a ∧ 0 ≤ a ∧ a ≤ 255 := by
  obtain ⟨f, rfl⟩ : ∃ f : Nat, fl = f := ⟨fl.toNat, by omega⟩
  by_cases h : n < 0 ∨ 30 ≤ n
  · have z := List.all_eq_true.1 all_none f (List.mem_range.2 (by omega))
    rw [Bool.and_eq_true, beq_iff_eq] at z
    obtain ⟨z1, z2⟩ := z
    have z3 : backseatref04_without.f 12 (f : Int) 0 = some (f : Int) := by
      cases hw : backseatref04_without.f 12 (f : Int) 0 with
      | none => rw [hw] at z1; cases z1
      | some a => rw [hw] at z1; simp at z1; rw [z1]
    refine ⟨f, ?_, ?_, h0, h1⟩
    · unfold flagsA
      rw [idx_none h, Option.bind_some, clears_none h, if_neg (by omega), z2]
    · unfold flagsB
      rw [rflag_none h, Option.bind_some, z3, Option.bind_some, rcleared_none h, Option.bind_some, Int.add_zero, w64 (by omega) (by omega), z3]
  · obtain ⟨m, rfl⟩ : ∃ m : Nat, n = m := ⟨n.toNat, by omega⟩
    have z := List.all_eq_true.1 (List.all_eq_true.1 all_small f (List.mem_range.2 (by omega))) m (List.mem_range.2 (by omega))
    unfold okF at z
    cases ha : flagsA f m with
    | none => rw [ha] at z; cases z
    | some a =>
      cases hb : flagsB f m with
      | none => rw [ha, hb] at z; cases z
      | some b =>
        rw [ha, hb] at z
        simp only [Bool.and_eq_true, beq_iff_eq, decide_eq_true_eq] at z
        exact ⟨a, rfl, by rw [z.1.1], z.1.2, z.2⟩
/-- The colour behind one number: x what it was. -/
def col (x n from_ : Int) : Int := if from_ ≤ n ∧ n ≤ from_ + 7 then n - from_ + 1 else if n = from_ + 9 then 0 else if from_ + 60 ≤ n ∧ n ≤ from_ + 67 then n - from_ - 51 else x
theorem colour_eq (n f : Int) (hn : (Lit.int .i64 n).wf = true) (hf : f = 30 ∨ f = 40) : cell_colour.f n f = some (col (-1) n f) := by
  unfold cell_colour.f col
  simp only [in_eq, Option.bind_some]
  rw [w64 (n := f + 7) (by omega) (by omega), w64 (n := f + 9) (by omega) (by omega), w64 (n := f + 60) (by omega) (by omega), w64 (n := f + 67) (by omega) (by omega)]
  by_cases h1 : f ≤ n ∧ n ≤ f + 7
  · rw [if_pos (by simp; omega), if_pos h1, w64 (n := n - f) (by omega) (by omega), w64 (by omega) (by omega)]
  · rw [if_neg (by simp; omega), if_neg h1]
    by_cases h2 : n = f + 9
    · rw [if_pos h2, if_pos h2]
    · rw [if_neg h2, if_neg h2]
      by_cases h3 : f + 60 ≤ n ∧ n ≤ f + 67
      · rw [if_pos (by simp; omega), if_pos h3, w64 (n := n - f) (by omega) (by omega), w64 (n := n - f - 60) (by omega) (by omega), w64 (by omega) (by omega)]
        congr 1; omega
      · rw [if_neg (by simp; omega), if_neg h3]
theorem col_range {x n f : Int} (hf : f = 30 ∨ f = 40) (h0 : 0 ≤ x) (h1 : x ≤ 256) : 0 ≤ col x n f ∧ col x n f ≤ 256 := by
  unfold col
  repeat' split
  all_goals omega
theorem col_neg {x n f : Int} (hf : f = 30 ∨ f = 40) : (if col (-1) n f ≥ 0 then col (-1) n f else x) = col x n f := by
  unfold col
  repeat' split
  all_goals omega
theorem look_iff {fg bg fl : Int} : look fg bg fl = true ↔ (0 ≤ fg ∧ fg ≤ 256) ∧ (0 ≤ bg ∧ bg ≤ 256) ∧ (0 ≤ fl ∧ fl ≤ 255) := by
  unfold look
  simp [and_assoc]
theorem cell_one_at (fg bg fl n a : Int) (hn : (Lit.int .i64 n).wf = true) (h0 : n ≠ 0) (ha : flagsA fl n = some a) : cell_one.f 12 fg bg fl n = some (col fg n 30, col bg n 40, a) := by
  unfold flagsA at ha
  unfold cell_one.f
  rw [if_neg h0]
  simp only [cell_sets.f, Option.bind_some]
  cases hi : slices_Index_int_int.f 12 [1, 2, 3, 4, 5, 7, 8, 9] n with
  | none => rw [hi] at ha; cases ha
  | some i =>
    rw [hi, Option.bind_some] at ha
    simp only [Option.bind_some]
    have hj : ∀ x, cell_one.j0 12 n fg bg x = some (col fg n 30, col bg n 40, Go.bits .andNot .i64 x (cell_clears.at n)) := by
      intro x
      rw [show (12 : Nat) = 11 + 1 from rfl, cell_one.j0]
      have hc : cell_clears.f n = some (cell_clears.at n) := by unfold cell_clears.f; rw [if_pos hn]
      rw [hc, Option.bind_some, colour_eq n 30 hn (.inl rfl), Option.bind_some, colour_eq n 40 hn (.inr rfl), ← col_neg (x := fg) (.inl rfl), ← col_neg (x := bg) (.inr rfl)]
      simp only [Option.bind_some]
      split <;> split <;> rfl
    by_cases hi0 : i ≥ 0
    · rw [if_pos hi0, if_pos hi0, hj]
      rw [if_pos hi0] at ha
      rw [Option.some.inj ha]
    · rw [if_neg hi0, hj]
      rw [if_neg hi0] at ha
      rw [Option.some.inj ha]
theorem rj3 (k : Nat) (n x y z : Int) : backseatref04_one.j3 (k + 1) n x y z = some (if 90 ≤ n ∧ n ≤ 97 then wrap64 (n - 81) else x, if 100 ≤ n ∧ n ≤ 107 then wrap64 (n - 91) else y, z) := by
  rw [backseatref04_one.j3]
  simp only [rin_eq, Option.bind_some, Bool.and_eq_true, decide_eq_true_eq]
  repeat' split
  all_goals rfl
theorem rj2 (k : Nat) (n x y z : Int) : backseatref04_one.j2 (k + 2) n x y z = backseatref04_one.j3 (k + 1) n x (if n = 49 then 0 else y) z := by
  rw [backseatref04_one.j2]
  split <;> rfl
theorem rj1 (k : Nat) (n x y z : Int) : backseatref04_one.j1 (k + 3) n x y z = backseatref04_one.j2 (k + 2) n x (if 40 ≤ n ∧ n ≤ 47 then wrap64 (n - 39) else y) z := by
  rw [backseatref04_one.j1]
  simp only [rin_eq, Option.bind_some, Bool.and_eq_true, decide_eq_true_eq]
  split <;> rfl
theorem rj0 (k : Nat) (n x y z : Int) : backseatref04_one.j0 (k + 4) n x y z = backseatref04_one.j1 (k + 3) n (if n = 39 then 0 else x) y z := by
  rw [backseatref04_one.j0]
  split <;> rfl
theorem rfg (fg n : Int) : (if 90 ≤ n ∧ n ≤ 97 then wrap64 (n - 81) else if n = 39 then 0 else if 30 ≤ n ∧ n ≤ 37 then wrap64 (n - 29) else fg) = col fg n 30 := by
  unfold col wrap64
  repeat' split
  all_goals omega
theorem rbg (bg n : Int) : (if 100 ≤ n ∧ n ≤ 107 then wrap64 (n - 91) else if n = 49 then 0 else if 40 ≤ n ∧ n ≤ 47 then wrap64 (n - 39) else bg) = col bg n 40 := by
  unfold col wrap64
  repeat' split
  all_goals omega
theorem ref_one_at (fg bg fl n a : Int) (h0 : n ≠ 0) (ha : flagsB fl n = some a) : backseatref04_one.f 12 fg bg fl n = some (col fg n 30, col bg n 40, a) := by
  unfold flagsB at ha
  unfold backseatref04_one.f
  rw [if_neg h0]
  cases h1 : backseatref04_flag.f n with
  | none => rw [h1] at ha; cases ha
  | some f =>
    rw [h1, Option.bind_some] at ha
    rw [Option.bind_some]
    cases h2 : backseatref04_without.f 12 fl f with
    | none => rw [h2] at ha; cases ha
    | some x =>
      rw [h2, Option.bind_some] at ha
      rw [Option.bind_some]
      cases h3 : backseatref04_cleared.f n with
      | none => rw [h3] at ha; cases ha
      | some c =>
        rw [h3, Option.bind_some] at ha
        rw [Option.bind_some, ha, Option.bind_some]
        have e : ∀ x, backseatref04_one.j0 12 n x bg a = some (if 90 ≤ n ∧ n ≤ 97 then wrap64 (n - 81) else if n = 39 then 0 else x, col bg n 40, a) := by
          intro x
          rw [show (12 : Nat) = 8 + 4 from rfl, rj0, rj1, rj2, rj3, rbg]
        simp only [rin_eq, Option.bind_some, e]
        rw [← rfg]
        by_cases h : 30 ≤ n ∧ n ≤ 37
        · rw [if_pos (by simpa using h), if_pos h]
        · rw [if_neg (by simpa using h), if_neg h]
/-- One number behind a look: what both tell. -/
theorem one_eq (fg bg fl n : Int) (hn : (Lit.int .i64 n).wf = true) (hl : look fg bg fl = true) : ∃ r : Int × Int × Int, Ev (fun k => cell_one.f k fg bg fl n) r ∧ Ev (fun k => backseatref04_one.f k fg bg fl n) r ∧ look r.1 r.2.1 r.2.2 = true := by
  by_cases h0 : n = 0
  · refine ⟨(0, 0, 0), ⟨0, fun k _ => by show cell_one.f k fg bg fl n = _; unfold cell_one.f; rw [if_pos h0]⟩, ⟨0, fun k _ => by show backseatref04_one.f k fg bg fl n = _; unfold backseatref04_one.f; rw [if_pos h0]⟩, by decide⟩
  · obtain ⟨hf, hb, hx0, hx1⟩ := look_iff.1 hl
    obtain ⟨a, ha, hb', h3, h4⟩ := flags_eq fl n hx0 hx1
    exact ⟨(col fg n 30, col bg n 40, a), Ev.of (fun k => cell_one.mono _ _ _ _ k) 12 (cell_one_at fg bg fl n a hn h0 ha), Ev.of (fun k => backseatref04_one.mono _ _ _ _ k) 12 (ref_one_at fg bg fl n a h0 hb'), look_iff.2 ⟨col_range (.inl rfl) hf.1 hf.2, col_range (.inr rfl) hb.1 hb.2, h3, h4⟩⟩
end Go.Proofs.Ythipdgnbpdngpaa
