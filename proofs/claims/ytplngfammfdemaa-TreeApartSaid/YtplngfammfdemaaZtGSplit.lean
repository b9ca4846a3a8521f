-- Copies of the texts YtplngfammfdemaaMF1, YtplngfammfdemaaMT1, YtplngfammfdemaaMT2, YtplngfammfdemaaMT3, YtplngfammfdemaaGIdx, YtplngfammfdemaaGHas, YtplngfammfdemaaGLeaf, YtplngfammfdemaaGSplitW, YtplngfammfdemaaGSplit with what this claim does not reach left out (prune.py, a program of this project).
import Derived.Test.YtplngfammfdemaaZtMF0
import Derived.Test.YtplngfammfdemaaZtQx27
import Derived.Test.YtplngfammfdemaaZtGMul
import Derived.Test.YtplngfammfdemaaZtGTree
import Derived.Deep.RegionHeld3
section
namespace Go.Proofs.Ytplngfammfdemaa
open Go.RowKit Go.Proofs.YtplngfammfdemaaW.PrintWords Go.Proofs.YtplngfammfdemaaW.PrintMore Q
set_option linter.unusedVariables false
set_option linter.unusedSimpArgs false
def LieAt (K : Nat) (t : S31) (x y w h : Int) (rs : List S44) : Prop := ∀ k, K ≤ k → tree_lie.f k t.f0 t.f1 t.f2 t.f3 0 x y w h = some rs
/-- A kid's columns and rows, of its tree's. -/
def kw (kind : Int) (t : S31) (w : Int) : Int := if kind = 1 then t.f2 else w
def kh (kind : Int) (t : S31) (h : Int) : Int := if kind = 1 then h else t.f2
theorem sized_f (kind a b c : Int) (l : List S31) (w h : Int) : tree_sized.f kind a b c l w h = some (if kind = 1 then c else w, if kind = 1 then h else c) := by
  unfold tree_sized.f; split <;> rfl
def sumS (l : List S31) : Int := (l.map (·.f2)).sum
theorem sumS_cons (t : S31) (l : List S31) : sumS (t :: l) = t.f2 + sumS l := by simp [sumS]
theorem rd31_drop (l : List S31) (i : Nat) (h : i < l.length) : l.drop i = rd_T31 l (i : Int) :: l.drop (i + 1) := by
  rw [List.drop_eq_getElem_cons h, rd31_get l i h]
theorem rd31_mem (l : List S31) (i : Nat) (h : i < l.length) : rd_T31 l (i : Int) ∈ l := by
  rw [rd31_get l i h]; exact List.getElem_mem h
/-- Where the kids lie, one behind the other. -/
def LieKids (K : Nat) (kind w h : Int) : List S31 → Int → Int → List S44 → Prop
  | [], _, _, rs => rs = []
  | t :: l, x, y, rs => ∃ r1 r2, rs = r1 ++ r2 ∧ r1.length ≤ 10 ∧ LieAt K t x y (kw kind t w) (kh kind t h) r1 ∧ LieKids K kind w h l (if kind = 1 then x + (t.f2 + 1) else x) (if kind = 1 then y else y + (t.f2 + 1)) r2
theorem lie_node (K : Nat) (kind f1 f2 : Int) (kids : List S31) (x y w h : Int) (hkind : kind = 1 ∨ kind = 2) (h10 : kids.length ≤ 10) (hx : 0 ≤ x ∧ x ≤ 1000) (hy : 0 ≤ y ∧ y ≤ 1000) (hk : ∀ t ∈ kids, 1 ≤ t.f2 ∧ t.f2 ≤ 80) (rs : List S44) (hrs : LieKids K kind w h kids x y rs) : LieAt (K + kids.length + 4) ⟨kind, f1, f2, kids⟩ x y w h rs := by
  have loop : ∀ d i k (acc rs : List S44) (x' y' : Int), i + d = kids.length → K + d + 1 ≤ k → 0 ≤ x' → x' ≤ 1000 + 81 * i → 0 ≤ y' → y' ≤ 1000 + 81 * i → acc.length ≤ 10 * i → LieKids K kind w h (kids.drop i) x' y' rs → tree_lie.l0 k acc x' y' kids (kids.length : Int) (i : Int) kind f1 f2 kids 0 x y w h = some (acc ++ rs) := by
    intro d
    induction d with
    | zero =>
      intro i k acc rs x' y' hi hk' _ _ _ _ hacc hl
      obtain ⟨k, rfl⟩ : ∃ m, k = m + 1 := ⟨k - 1, by omega⟩
      simp only [tree_lie.l0]
      rw [if_neg (by omega)]
      rw [List.drop_eq_nil_of_le (by omega)] at hl
      rw [show rs = [] from hl, List.append_nil]
    | succ d ih =>
      intro i k acc rs x' y' hi hk' hx0 hx1 hy0 hy1 hacc hl
      obtain ⟨k, rfl⟩ : ∃ m, k = m + 1 := ⟨k - 1, by omega⟩
      simp only [tree_lie.l0]
      rw [if_pos (by omega), if_pos (by omega), if_pos (by omega), sized_f]
      rw [rd31_drop kids i (by omega)] at hl
      obtain ⟨r1, r2, rfl, hlen, h1, h2⟩ := hl
      obtain ⟨g1, g2⟩ := hk _ (rd31_mem kids i (by omega))
      simp only [Option.bind_some]
      have := h1 k (by omega)
      unfold kw kh at this
      rw [this]
      simp only [Option.bind_some]
      rw [if_pos (by omega)]
      rcases hkind with rfl | rfl
      · simp only [if_true] at h2 ⊢
        rw [wrap_i (i := (rd_T31 kids (i : Int)).f2 + 1) (by omega) (by omega), wrap_i (i := x' + _) (by omega) (by omega), wrap_i (by omega) (by omega), show ((i : Int) + 1) = ((i + 1 : Nat) : Int) by omega, ih (i + 1) k (acc ++ r1) r2 _ y' (by omega) (by omega) (by omega) (by omega) hy0 (by omega) (by rw [List.length_append]; omega) h2, List.append_assoc]
      · simp only [show ((2 : Int) = 1) = False from eq_false (by omega), if_false] at h2 ⊢
        rw [wrap_i (i := (rd_T31 kids (i : Int)).f2 + 1) (by omega) (by omega), wrap_i (i := y' + _) (by omega) (by omega), wrap_i (by omega) (by omega), show ((i : Int) + 1) = ((i + 1 : Nat) : Int) by omega, ih (i + 1) k (acc ++ r1) r2 x' _ (by omega) (by omega) hx0 (by omega) (by omega) (by omega) (by rw [List.length_append]; omega) h2, List.append_assoc]
  intro k hk'
  obtain ⟨k, rfl⟩ : ∃ m, k = m + 1 := ⟨k - 1, by omega⟩
  simp only [tree_lie.f]
  rw [if_neg (by omega)]
  have := loop kids.length 0 k [] rs x y (by omega) (by omega) hx.1 (by omega) hy.1 (by omega) (by simp) (by rw [List.drop_zero]; exact hrs)
  rw [List.nil_append] at this
  exact this
end Go.Proofs.Ytplngfammfdemaa
end
section
namespace Go.Proofs.Ytplngfammfdemaa
open Go.RowKit Go.Proofs.YtplngfammfdemaaW.PrintWords Go.Proofs.YtplngfammfdemaaW.PrintMore Q
set_option linter.unusedVariables false
set_option linter.unusedSimpArgs false
/-- No tree in it has more than 60 kids; so deep at most. -/
def Few : Nat → S31 → Prop
  | 0, _ => False
  | d + 1, t => t.f3.length ≤ 60 ∧ ∀ x ∈ t.f3, Few d x
theorem tin_some (a lo hi : Int) : ∃ b, tree_in.f a lo hi = some b := by
  unfold tree_in.f; split <;> exact ⟨_, rfl⟩
theorem made_ends : ∀ d (t : S31), Few d t → ∀ w h deep, ∃ r, ∀ k, 70 * d ≤ k → tree_made.f k t.f0 t.f1 t.f2 t.f3 w h deep = some r := by
  intro d
  induction d with
  | zero => intro t h; exact h.elim
  | succ d ih =>
    intro t ht w h deep
    obtain ⟨hl, hx⟩ := ht
    have loop : ∀ m i, i + m = t.f3.length → ∀ acc : Int, ∃ r, ∀ k, 70 * d + m + 1 ≤ k → tree_made.l0 k w h deep acc t.f3 (t.f3.length : Int) (i : Int) t.f0 t.f1 t.f2 t.f3 = some r := by
      intro m
      induction m with
      | zero =>
        intro i hi acc
        have hal : ∃ b, tree_along.f t.f0 w h = some b := by unfold tree_along.f; split <;> exact ⟨_, rfl⟩
        obtain ⟨b, hb⟩ := hal
        refine ⟨acc == b, fun k hk => ?_⟩
        obtain ⟨k, rfl⟩ : ∃ m, k = m + 1 := ⟨k - 1, by omega⟩
        simp only [tree_made.l0]
        rw [if_neg (by omega), hb]
        rfl
      | succ m ihm =>
        intro i hi acc
        obtain ⟨b, hb⟩ := tin_some (rd_T31 t.f3 (i : Int)).f2 1 80
        by_cases hkind : (rd_T31 t.f3 (i : Int)).f0 = t.f0
        · refine ⟨false, fun k hk => ?_⟩
          obtain ⟨k, rfl⟩ : ∃ m, k = m + 1 := ⟨k - 1, by omega⟩
          simp only [tree_made.l0]
          rw [if_pos (by omega), if_pos (by omega), if_pos (by omega), sized_f]
          simp only [Option.bind_some]
          rw [if_pos hkind]
        cases b with
        | false =>
          refine ⟨false, fun k hk => ?_⟩
          obtain ⟨k, rfl⟩ : ∃ m, k = m + 1 := ⟨k - 1, by omega⟩
          simp only [tree_made.l0]
          rw [if_pos (by omega), if_pos (by omega), if_pos (by omega), sized_f]
          simp only [Option.bind_some]
          rw [if_neg hkind, hb]
          rfl
        | true =>
          obtain ⟨r, hr⟩ := ih _ (hx _ (rd31_mem t.f3 i (by omega))) (if t.f0 = 1 then (rd_T31 t.f3 (i : Int)).f2 else w) (if t.f0 = 1 then h else (rd_T31 t.f3 (i : Int)).f2) (wrap64 (deep + 1))
          cases r with
          | false =>
            refine ⟨false, fun k hk => ?_⟩
            obtain ⟨k, rfl⟩ : ∃ m, k = m + 1 := ⟨k - 1, by omega⟩
            simp only [tree_made.l0]
            rw [if_pos (by omega), if_pos (by omega), if_pos (by omega), sized_f]
            simp only [Option.bind_some]
            rw [if_neg hkind, hb]
            simp only [Option.bind_some, if_true]
            rw [hr k (by omega)]
            rfl
          | true =>
            obtain ⟨r', hr'⟩ := ihm (i + 1) (by omega) (wrap64 (acc + (rd_T31 t.f3 (i : Int)).f2))
            refine ⟨r', fun k hk => ?_⟩
            obtain ⟨k, rfl⟩ : ∃ m, k = m + 1 := ⟨k - 1, by omega⟩
            simp only [tree_made.l0]
            rw [if_pos (by omega), if_pos (by omega), if_pos (by omega), sized_f]
            simp only [Option.bind_some]
            rw [if_neg hkind, hb]
            simp only [Option.bind_some, if_true]
            rw [hr k (by omega)]
            simp only [Option.bind_some, if_true]
            rw [show wrap64 ((i : Int) + 1) = ((i + 1 : Nat) : Int) from by rw [wrap_i (by omega) (by omega)]; omega]
            exact hr' k (by omega)
    have j0 : ∀ b, ∃ r, ∀ k, 70 * d + 62 ≤ k → tree_made.j0 k w h deep b t.f0 t.f1 t.f2 t.f3 = some r := by
      intro b
      cases b with
      | true =>
        refine ⟨false, fun k hk => ?_⟩
        obtain ⟨k, rfl⟩ : ∃ m, k = m + 1 := ⟨k - 1, by omega⟩
        simp only [tree_made.j0]
        rw [if_pos trivial]
      | false =>
        obtain ⟨r, hr⟩ := loop t.f3.length 0 (by omega) (wrap64 ((t.f3.length : Int) - 1))
        refine ⟨r, fun k hk => ?_⟩
        obtain ⟨k, rfl⟩ : ∃ m, k = m + 1 := ⟨k - 1, by omega⟩
        simp only [tree_made.j0]
        rw [if_neg (by decide)]
        exact hr k (by omega)
    by_cases h0 : t.f0 = 0
    · obtain ⟨b, hb⟩ := tin_some t.f1 1 999
      by_cases hl0 : (t.f3.length : Int) = 0
      · refine ⟨b, fun k hk => ?_⟩
        obtain ⟨k, rfl⟩ : ∃ m, k = m + 1 := ⟨k - 1, by omega⟩
        simp only [tree_made.f]
        rw [if_pos h0, if_pos hl0, hb]; rfl
      · refine ⟨false, fun k hk => ?_⟩
        obtain ⟨k, rfl⟩ : ∃ m, k = m + 1 := ⟨k - 1, by omega⟩
        simp only [tree_made.f]
        rw [if_pos h0, if_neg hl0]
    · obtain ⟨b, hb⟩ := tin_some t.f0 1 2
      have key : ∃ c, ∀ k, tree_made.f (k + 1) t.f0 t.f1 t.f2 t.f3 w h deep = tree_made.j0 k w h deep c t.f0 t.f1 t.f2 t.f3 := by
        cases b with
        | false => exact ⟨true, fun k => by simp only [tree_made.f]; rw [if_neg h0, hb]; rfl⟩
        | true =>
          by_cases h1 : t.f1 = 0
          · by_cases h2 : (t.f3.length : Int) < 2
            · exact ⟨true, fun k => by simp only [tree_made.f]; rw [if_neg h0, hb]; simp only [Option.bind_some, if_true]; rw [if_pos h1, if_pos h2]⟩
            · exact ⟨_, fun k => by simp only [tree_made.f]; rw [if_neg h0, hb]; simp only [Option.bind_some, if_true]; rw [if_pos h1, if_neg h2]⟩
          · exact ⟨true, fun k => by simp only [tree_made.f]; rw [if_neg h0, hb]; simp only [Option.bind_some, if_true]; rw [if_neg h1]⟩
      obtain ⟨c, hc⟩ := key
      obtain ⟨r, hr⟩ := j0 c
      refine ⟨r, fun k hk => ?_⟩
      obtain ⟨k, rfl⟩ : ∃ m, k = m + 1 := ⟨k - 1, by omega⟩
      rw [hc]
      exact hr k (by omega)
theorem panes_ends : ∀ d (t : S31), Few d t → ∃ ps, ∀ k, d ≤ k → panesK k t = some ps := by
  intro d
  induction d with
  | zero => intro t h; exact h.elim
  | succ d ih =>
    intro t ht
    obtain ⟨hl, hx⟩ := ht
    have all : ∀ l : List S31, (∀ x ∈ l, Few d x) → ∃ ps, ∀ k, d ≤ k → allK (panesK k) l = some ps := by
      intro l
      induction l with
      | nil => intro _; exact ⟨[], fun k _ => rfl⟩
      | cons x l ihl =>
        intro h
        obtain ⟨a, ha⟩ := ih x (h x List.mem_cons_self)
        obtain ⟨b, hb⟩ := ihl (fun y hy => h y (List.mem_cons_of_mem _ hy))
        exact ⟨a ++ b, fun k hk => by simp only [allK]; rw [ha k hk, Option.bind_some, hb k hk, Option.bind_some]⟩
    obtain ⟨ps, hps⟩ := all t.f3 hx
    by_cases h0 : t.f0 = 0
    · refine ⟨[t.f1], fun k hk => ?_⟩
      obtain ⟨k, rfl⟩ : ∃ m, k = m + 1 := ⟨k - 1, by omega⟩
      simp only [panesK]
      rw [if_pos h0]
    · refine ⟨ps, fun k hk => ?_⟩
      obtain ⟨k, rfl⟩ : ∃ m, k = m + 1 := ⟨k - 1, by omega⟩
      simp only [panesK]
      rw [if_neg h0, if_pos (by omega)]
      exact hps k (by omega)
end Go.Proofs.Ytplngfammfdemaa
end
section
namespace Go.Proofs.Ytplngfammfdemaa
open Go.RowKit Go.Proofs.YtplngfammfdemaaW.PrintWords Go.Proofs.YtplngfammfdemaaW.PrintMore Q
set_option linter.unusedVariables false
set_option linter.unusedSimpArgs false
def InBox (x y w h : Int) (r : S44) : Prop := x ≤ r.f1 ∧ y ≤ r.f2 ∧ 1 ≤ r.f3 ∧ 1 ≤ r.f4 ∧ r.f1 + r.f3 ≤ x + w ∧ r.f2 + r.f4 ≤ y + h
def Ap (a b : S44) : Prop := a.f1 + a.f3 < b.f1 ∨ b.f1 + b.f3 < a.f1 ∨ a.f2 + a.f4 < b.f2 ∨ b.f2 + b.f4 < a.f2
def GoodR (x y w h : Int) (rs : List S44) : Prop := (∀ r ∈ rs, InBox x y w h r) ∧ rs.Pairwise Ap
theorem tin_iff {a lo hi : Int} (h : tree_in.f a lo hi = some true) : lo ≤ a ∧ a ≤ hi := by
  unfold tree_in.f at h
  split at h
  · rename_i h1
    simp at h
    exact ⟨h1, h⟩
  · simp at h
theorem made_loop_inv (kind f1 f2 w h deep : Int) (kids : List S31) (h60 : kids.length ≤ 60) : ∀ k i (acc : Int), i ≤ kids.length → 0 ≤ acc → acc ≤ 60 + 80 * i → tree_made.l0 k w h deep acc kids (kids.length : Int) (i : Int) kind f1 f2 kids = some true →
    (∀ t ∈ kids.drop i, t.f0 ≠ kind ∧ 1 ≤ t.f2 ∧ t.f2 ≤ 80 ∧ ∃ k', tree_made.f k' t.f0 t.f1 t.f2 t.f3 (kw kind t w) (kh kind t h) (wrap64 (deep + 1)) = some true) ∧ acc + sumS (kids.drop i) = (if kind = 1 then w else h) := by
  intro k
  induction k with
  | zero => intro i acc _ _ _ H; simp [tree_made.l0] at H
  | succ k ih =>
    intro i acc hi ha hb H
    simp only [tree_made.l0] at H
    by_cases hlt : i < kids.length
    · rw [if_pos (by omega), if_pos (by omega), if_pos (by omega), sized_f] at H
      simp only [Option.bind_some] at H
      by_cases g1 : (rd_T31 kids (i : Int)).f0 = kind
      · rw [if_pos g1] at H; simp at H
      rw [if_neg g1] at H
      obtain ⟨b, hb1⟩ := tin_some (rd_T31 kids (i : Int)).f2 1 80
      rw [hb1] at H
      simp only [Option.bind_some] at H
      cases b with
      | false => simp at H
      | true =>
        obtain ⟨s1, s2⟩ := tin_iff hb1
        rw [if_pos rfl] at H
        cases hm : tree_made.f k (rd_T31 kids (i : Int)).f0 (rd_T31 kids (i : Int)).f1 (rd_T31 kids (i : Int)).f2 (rd_T31 kids (i : Int)).f3 (if kind = 1 then (rd_T31 kids (i : Int)).f2 else w) (if kind = 1 then h else (rd_T31 kids (i : Int)).f2) (wrap64 (deep + 1)) with
        | none => rw [hm] at H; simp at H
        | some c =>
          rw [hm] at H
          simp only [Option.bind_some] at H
          cases c with
          | false => simp at H
          | true =>
            rw [if_pos rfl, wrap_i (i := acc + _) (by omega) (by omega), wrap_i (i := (i : Int) + 1) (by omega) (by omega), show ((i : Int) + 1) = ((i + 1 : Nat) : Int) by omega] at H
            obtain ⟨q1, q2⟩ := ih (i + 1) _ (by omega) (by omega) (by omega) H
            rw [rd31_drop kids i hlt]
            refine ⟨?_, ?_⟩
            · intro t ht
              rcases List.mem_cons.1 ht with rfl | ht
              · exact ⟨g1, s1, s2, k, hm⟩
              · exact q1 t ht
            · rw [sumS_cons]; omega
    · rw [if_neg (by omega)] at H
      have hal : tree_along.f kind w h = some (if kind = 1 then w else h) := by unfold tree_along.f; split <;> rfl
      rw [hal, Option.bind_some] at H
      rw [List.drop_eq_nil_of_le (by omega)]
      refine ⟨fun t ht => (by simp at ht), ?_⟩
      simp at H
      simp [sumS]
      exact H
theorem made_inv {k : Nat} {t : S31} {w h deep : Int} (h60 : t.f3.length ≤ 60) (H : tree_made.f k t.f0 t.f1 t.f2 t.f3 w h deep = some true) :
    (t.f0 = 0 ∧ t.f3 = []) ∨ ((t.f0 = 1 ∨ t.f0 = 2) ∧ 2 ≤ t.f3.length ∧ (∀ x ∈ t.f3, x.f0 ≠ t.f0 ∧ 1 ≤ x.f2 ∧ x.f2 ≤ 80 ∧ ∃ k', tree_made.f k' x.f0 x.f1 x.f2 x.f3 (kw t.f0 x w) (kh t.f0 x h) (wrap64 (deep + 1)) = some true) ∧ sumS t.f3 + t.f3.length - 1 = (if t.f0 = 1 then w else h)) := by
  cases k with
  | zero => simp [tree_made.f] at H
  | succ k =>
    simp only [tree_made.f] at H
    by_cases h0 : t.f0 = 0
    · rw [if_pos h0] at H
      by_cases hl : (t.f3.length : Int) = 0
      · exact .inl ⟨h0, List.length_eq_zero_iff.1 (by omega)⟩
      · rw [if_neg hl] at H; simp at H
    · rw [if_neg h0] at H
      obtain ⟨b, hb⟩ := tin_some t.f0 1 2
      have jt : tree_made.j0 k w h deep true t.f0 t.f1 t.f2 t.f3 ≠ some true := by
        cases k with
        | zero => simp [tree_made.j0]
        | succ k => simp [tree_made.j0]
      rw [hb] at H
      simp only [Option.bind_some] at H
      cases b with
      | false => rw [if_neg (by decide)] at H; exact absurd H jt
      | true =>
        have hkind := tin_iff hb
        rw [if_pos rfl] at H
        by_cases h1 : t.f1 = 0
        · rw [if_pos h1] at H
          by_cases h2 : (t.f3.length : Int) < 2
          · rw [if_pos h2] at H; exact absurd H jt
          · rw [if_neg h2] at H
            cases hd : decide (deep > 8) with
            | true => rw [hd] at H; exact absurd H jt
            | false =>
              rw [hd] at H
              cases k with
              | zero => simp [tree_made.j0] at H
              | succ k =>
                simp only [tree_made.j0] at H
                rw [if_neg (by decide), wrap_i (by omega) (by omega)] at H
                obtain ⟨q1, q2⟩ := made_loop_inv t.f0 t.f1 t.f2 w h deep t.f3 h60 k 0 _ (by omega) (by omega) (by omega) H
                rw [List.drop_zero] at q1 q2
                exact .inr ⟨by omega, by omega, q1, by omega⟩
        · rw [if_neg h1] at H; exact absurd H jt
theorem kids_good (K : Nat) (kind w h : Int) (hkind : kind = 1 ∨ kind = 2) (F : S31 → List Int) :
    ∀ l : List S31, (∀ t ∈ l, 1 ≤ t.f2 ∧ t.f2 ≤ 80 ∧ (F t).length ≤ 8 ∧ ∀ x y, 0 ≤ x → x + kw kind t w ≤ 100 → 0 ≤ y → y + kh kind t h ≤ 100 → ∃ rs, LieAt K t x y (kw kind t w) (kh kind t h) rs ∧ rs.length = (F t).length ∧ GoodR x y (kw kind t w) (kh kind t h) rs) →
      ∀ x y, 0 ≤ x → 0 ≤ y → x + (if kind = 1 then sumS l + l.length - 1 else w) ≤ 100 → y + (if kind = 1 then h else sumS l + l.length - 1) ≤ 100 →
      ∃ rs, LieKids K kind w h l x y rs ∧ rs.length = (l.flatMap F).length ∧ GoodR x y (if kind = 1 then sumS l + l.length - 1 else w) (if kind = 1 then h else sumS l + l.length - 1) rs := by
  intro l
  induction l with
  | nil => intro _ x y _ _ _ _; exact ⟨[], rfl, rfl, by simp [GoodR], .nil⟩
  | cons t l ih =>
    intro hk x y hx hy hxB hyB
    obtain ⟨g1, g2, g3, g4⟩ := hk t List.mem_cons_self
    have hs : 0 ≤ sumS l ∧ (l ≠ [] → 1 ≤ l.length) := by
      refine ⟨?_, fun h => List.length_pos_iff.2 h⟩
      have : ∀ m : List S31, (∀ t ∈ m, 1 ≤ t.f2) → 0 ≤ sumS m := by
        intro m
        induction m with
        | nil => intro _; simp [sumS]
        | cons a m ihm =>
          intro hm
          rw [sumS_cons]
          have := hm a List.mem_cons_self
          have := ihm (fun t ht => hm t (List.mem_cons_of_mem _ ht))
          omega
      exact this l (fun t' ht => (hk t' (List.mem_cons_of_mem _ ht)).1)
    have hsl : l = [] → sumS l = 0 := by rintro rfl; rfl
    have hll : l = [] → l.length = 0 := by rintro rfl; rfl
    rw [sumS_cons, List.length_cons] at hxB hyB ⊢
    rcases hkind with rfl | rfl
    · simp only [if_true, kw, kh] at hxB hyB g4 ⊢
      obtain ⟨r1, e1, e2, e3, e4⟩ := g4 x y hx (by omega) hy (by omega)
      by_cases hl : l = []
      · subst hl
        refine ⟨r1, ⟨r1, [], by simp, by omega, e1, rfl⟩, by simp [e2], fun r hr => ?_, e4⟩
        obtain ⟨a1, a2, a3, a4, a5, a6⟩ := e3 r hr
        have := hsl rfl; have := hll rfl
        exact ⟨a1, a2, a3, a4, by omega, by omega⟩
      have hl1 := hs.2 hl
      obtain ⟨r2, d1, d2, d3, d4⟩ := ih (fun t' ht => hk t' (List.mem_cons_of_mem _ ht)) (x + (t.f2 + 1)) y (by omega) hy (by simp only [if_true]; omega) (by simp only [if_true]; omega)
      simp only [if_true] at d3
      refine ⟨r1 ++ r2, ⟨r1, r2, rfl, by omega, e1, d1⟩, by rw [List.length_append, List.flatMap_cons, List.length_append, e2, d2], ?_, ?_⟩
      · intro r hr
        rcases List.mem_append.1 hr with hr | hr
        · obtain ⟨a1, a2, a3, a4, a5, a6⟩ := e3 r hr
          exact ⟨a1, a2, a3, a4, by omega, by omega⟩
        · obtain ⟨a1, a2, a3, a4, a5, a6⟩ := d3 r hr
          exact ⟨by omega, a2, a3, a4, by omega, by omega⟩
      · refine List.pairwise_append.2 ⟨e4, d4, fun a ha b hb => ?_⟩
        obtain ⟨a1, a2, a3, a4, a5, a6⟩ := e3 a ha
        obtain ⟨b1, b2, b3, b4, b5, b6⟩ := d3 b hb
        exact .inl (by omega)
    · simp only [show ((2 : Int) = 1) = False from eq_false (by omega), if_false, kw, kh] at hxB hyB g4 ⊢
      obtain ⟨r1, e1, e2, e3, e4⟩ := g4 x y hx (by omega) hy (by omega)
      by_cases hl : l = []
      · subst hl
        refine ⟨r1, ⟨r1, [], by simp, by omega, e1, rfl⟩, by simp [e2], fun r hr => ?_, e4⟩
        obtain ⟨a1, a2, a3, a4, a5, a6⟩ := e3 r hr
        have := hsl rfl; have := hll rfl
        exact ⟨a1, a2, a3, a4, by omega, by omega⟩
      have hl1 := hs.2 hl
      obtain ⟨r2, d1, d2, d3, d4⟩ := ih (fun t' ht => hk t' (List.mem_cons_of_mem _ ht)) x (y + (t.f2 + 1)) hx (by omega) (by simp only [show ((2 : Int) = 1) = False from eq_false (by omega), if_false]; omega) (by simp only [show ((2 : Int) = 1) = False from eq_false (by omega), if_false]; omega)
      simp only [show ((2 : Int) = 1) = False from eq_false (by omega), if_false] at d3
      refine ⟨r1 ++ r2, ⟨r1, r2, rfl, by omega, e1, d1⟩, by rw [List.length_append, List.flatMap_cons, List.length_append, e2, d2], ?_, ?_⟩
      · intro r hr
        rcases List.mem_append.1 hr with hr | hr
        · obtain ⟨a1, a2, a3, a4, a5, a6⟩ := e3 r hr
          exact ⟨a1, a2, a3, a4, by omega, by omega⟩
        · obtain ⟨a1, a2, a3, a4, a5, a6⟩ := d3 r hr
          exact ⟨a1, by omega, a3, a4, by omega, by omega⟩
      · refine List.pairwise_append.2 ⟨e4, d4, fun a ha b hb => ?_⟩
        obtain ⟨a1, a2, a3, a4, a5, a6⟩ := e3 a ha
        obtain ⟨b1, b2, b3, b4, b5, b6⟩ := d3 b hb
        exact .inr (.inr (.inl (by omega)))
end Go.Proofs.Ytplngfammfdemaa
end
section
namespace Go.Proofs.Ytplngfammfdemaa
open Go.RowKit Go.Proofs.YtplngfammfdemaaW.PrintWords Go.Proofs.YtplngfammfdemaaW.PrintMore Q
set_option linter.unusedVariables false
set_option linter.unusedSimpArgs false
theorem len_flat (F : S31 → List Int) : ∀ l : List S31, (∀ t ∈ l, 1 ≤ (F t).length) → l.length ≤ (l.flatMap F).length ∧ ∀ t ∈ l, (F t).length ≤ (l.flatMap F).length := by
  intro l
  induction l with
  | nil => intro _; exact ⟨by simp, fun t ht => (by simp at ht)⟩
  | cons t l ih =>
    intro h
    have h1 := h t List.mem_cons_self
    obtain ⟨a, b⟩ := ih (fun t ht => h t (List.mem_cons_of_mem _ ht))
    rw [List.flatMap_cons, List.length_append, List.length_cons]
    refine ⟨by omega, fun x hx => ?_⟩
    rcases List.mem_cons.1 hx with rfl | hx
    · omega
    · have := b x hx; omega
theorem allK_flat (F : S31 → List Int) (f : S31 → Option (List Int)) : ∀ l : List S31, (∀ t ∈ l, f t = some (F t)) → allK f l = some (l.flatMap F) := by
  intro l
  induction l with
  | nil => intro _; rfl
  | cons t l ih =>
    intro h
    simp only [allK]
    rw [h t List.mem_cons_self, Option.bind_some, ih (fun x hx => h x (List.mem_cons_of_mem _ hx)), Option.bind_some, List.flatMap_cons]
/-- The panes of a tree, at so many rounds. -/
def pAt (d : Nat) (t : S31) : List Int := (panesK d t).getD []
theorem pAt_ends {d : Nat} {t : S31} (h : Few d t) : ∀ k, d ≤ k → panesK k t = some (pAt d t) := by
  obtain ⟨ps, hps⟩ := panes_ends d t h
  have e : pAt d t = ps := by unfold pAt; rw [hps d (Nat.le_refl _)]; rfl
  rw [e]; exact hps
theorem pAt_node {d : Nat} {t : S31} (h : Few (d + 1) t) (h0 : t.f0 ≠ 0) : pAt (d + 1) t = t.f3.flatMap (pAt d) := by
  have h1 := pAt_ends h (d + 1) (Nat.le_refl _)
  simp only [panesK] at h1
  rw [if_neg h0, if_pos (by have := h.1; omega), allK_flat (pAt d) (panesK d) t.f3 (fun x hx => pAt_ends (h.2 x hx) d (Nat.le_refl _))] at h1
  exact (Option.some.inj h1).symm
theorem good_of_made : ∀ d (t : S31), Few d t → ∀ k w h deep, 1 ≤ w → w ≤ 80 → 1 ≤ h → h ≤ 80 → tree_made.f k t.f0 t.f1 t.f2 t.f3 w h deep = some true → 1 ≤ (pAt d t).length ∧
    ((pAt d t).length ≤ 8 → ∀ x y, 0 ≤ x → x + w ≤ 100 → 0 ≤ y → y + h ≤ 100 → ∃ rs, LieAt (70 * d) t x y w h rs ∧ rs.length = (pAt d t).length ∧ GoodR x y w h rs) := by
  intro d
  induction d with
  | zero => intro t ht; exact ht.elim
  | succ d ih =>
    intro t ht k w h deep hw1 hw hh1 hh hm
    rcases made_inv ht.1 hm with ⟨h0, h3⟩ | ⟨hkind, h2, hk, hs⟩
    · have e : pAt (d + 1) t = [t.f1] := by
        have := pAt_ends ht (d + 1) (Nat.le_refl _)
        simp only [panesK] at this
        rw [if_pos h0] at this
        exact (Option.some.inj this).symm
      rw [e]
      refine ⟨by simp, fun _ x y hx hxw hy hyh => ⟨[⟨t.f1, x, y, w, h⟩], ?_, rfl, ?_, ?_⟩⟩
      · intro k hk
        obtain ⟨k, rfl⟩ : ∃ m, k = m + 1 := ⟨k - 1, by omega⟩
        simp only [tree_lie.f]
        rw [if_pos h0]
      · intro r hr
        rw [List.mem_singleton.1 hr]
        exact ⟨by show x ≤ x; omega, by show y ≤ y; omega, hw1, hh1, by show x + w ≤ x + w; omega, by show y + h ≤ y + h; omega⟩
      · exact List.pairwise_singleton _ _
    · have e := pAt_node ht (by omega)
      rw [e]
      have hone : ∀ x ∈ t.f3, 1 ≤ (pAt d x).length ∧ ((pAt d x).length ≤ 8 → ∀ X Y, 0 ≤ X → X + kw t.f0 x w ≤ 100 → 0 ≤ Y → Y + kh t.f0 x h ≤ 100 → ∃ rs, LieAt (70 * d) x X Y (kw t.f0 x w) (kh t.f0 x h) rs ∧ rs.length = (pAt d x).length ∧ GoodR X Y (kw t.f0 x w) (kh t.f0 x h) rs) := by
        intro x hx
        obtain ⟨q1, q2, q3, k', q4⟩ := hk x hx
        exact ih x (ht.2 x hx) k' _ _ _ (by unfold kw; split <;> omega) (by unfold kw; split <;> omega) (by unfold kh; split <;> omega) (by unfold kh; split <;> omega) q4
      obtain ⟨f1, f2⟩ := len_flat (pAt d) t.f3 (fun x hx => (hone x hx).1)
      refine ⟨by omega, fun h8 x y hx hxw hy hyh => ?_⟩
      obtain ⟨rs, r1, r2, r3⟩ := kids_good (70 * d) t.f0 w h hkind (pAt d) t.f3 (fun x hx => ⟨(hk x hx).2.1, (hk x hx).2.2.1, by have := f2 x hx; omega, (hone x hx).2 (by have := f2 x hx; omega)⟩) x y hx hy (by split <;> rename_i hc <;> simp only [hc, if_true, if_false] at hs <;> omega) (by split <;> rename_i hc <;> simp only [hc, if_true, if_false] at hs <;> omega)
      have ew : (if t.f0 = 1 then sumS t.f3 + t.f3.length - 1 else w) = w := by split <;> rename_i hc <;> simp only [hc, if_true, if_false] at hs <;> omega
      have eh : (if t.f0 = 1 then h else sumS t.f3 + t.f3.length - 1) = h := by split <;> rename_i hc <;> simp only [hc, if_true, if_false] at hs <;> omega
      rw [ew, eh] at r3
      refine ⟨rs, ?_, r2, r3⟩
      have := lie_node (70 * d) t.f0 t.f1 t.f2 t.f3 x y w h hkind (by omega) ⟨hx, by omega⟩ ⟨hy, by omega⟩ (fun x hx => ⟨(hk x hx).2.1, (hk x hx).2.2.1⟩) rs r1
      exact fun k hk => this k (by omega)
end Go.Proofs.Ytplngfammfdemaa
end
section
namespace Go.Proofs.Ytplngfammfdemaa
open Go.RowKit Go.Proofs.YtplngfammfdemaaW.PrintWords Go.Proofs.YtplngfammfdemaaW.PrintLast Go.Proofs.YtplngfammfdemaaW.PrintMore Q
set_option linter.unusedVariables false
set_option linter.unusedSimpArgs false
/-- A call through a function value, as an arm of go_wp2_with. -/
theorem goesFR_ {P : Program} {ops : Array Oper} {Q : Exit → Act → World → Prop} {w : World} {rest : List Oper} {oi : Oper} {a : Act} (N : Option Tmp) (hd : oi.dst = N) (hg : oi.guard = none) {f : FuncId} {fn : Func} {x : Tmp} {ops_ : Array Operand} {ts : Array TypeId} {lb : Array Value} (hf : P.funcs[f]? = some fn) (hname : (fn.name == "runtime.NumGoroutine") = false) (hb : fn.body.isSome = true) (args : Array Value)
    (hop : oi.op = .call { callee := .value (.tmp x), args := ops_, argTypes := ts }) (hx : a.eval (.tmp x) = .func (.func f) #[] lb) (hargs : ops_.map a.eval = args)
    (h : Calls P f (args ++ lb) w fun e w' => ∃ v, e = .returned v ∧ wpList P ops Q rest (a.put N v) w') : wpList P ops Q (oi :: rest) a w := by
  refine wpList_plain hg fun K hK => ?_
  have he := enters_ hf hname hb (args ++ lb) w
  have hrun : (execOp a.eval oi).run P w = .ok (.enter f (args ++ lb)) w := by
    unfold execOp
    simp [hop, hx, resolve, Deferred.ofValue, invoke, hargs, he]
  unfold Oper.wp
  rw [hrun, Oper.upon_enter]
  refine h.mono fun e w'' hh => ?_
  obtain ⟨v, rfl, hk⟩ := hh
  subst hd
  exact hK _ _ hk
def rectV (x : S44) : Value := .agg #[.int .i64 x.f0, .int .i64 x.f1, .int .i64 x.f2, .int .i64 x.f3, .int .i64 x.f4]
/-- Wherever all that lay in w lies unturned, the function value tells p. -/
def PredR (g : FuncId) (lb : Array Value) (p : S44 → Bool) (w : World) : Prop := ∀ W, Below w.heap.size w W → ∀ x : S44, Calls Try.prog g (#[rectV x] ++ lb) W fun e W' => e = .returned (.bool (p x)) ∧ Below W.heap.size W W'
def idxR (p : S44 → Bool) (l : List S44) : Int := match l.findIdx? p with | some i => (i : Int) | none => -1
theorem idxR_at {p : S44 → Bool} {l : List S44} {i : Nat} (hi : i < l.length) (h : ∀ j : Nat, j < i → p (rd_T44 l j) = false) (hp : p (rd_T44 l i) = true) : idxR p l = i := by
  have e : ∀ j (hj : j < l.length), rd_T44 l (j : Int) = l[j] := fun j hj => by unfold rd_T44; rw [Int.toNat_natCast, List.getD_eq_getElem?_getD, List.getElem?_eq_getElem hj]; rfl
  have : l.findIdx? p = some i := by
    rw [List.findIdx?_eq_some_iff_getElem]
    refine ⟨hi, by rw [← e i hi]; exact hp, fun j hj => ?_⟩
    rw [← e j (by omega), h j hj]; simp
  unfold idxR
  rw [this]
theorem idxR_none {p : S44 → Bool} {l : List S44} (h : ∀ j : Nat, j < l.length → p (rd_T44 l j) = false) : idxR p l = -1 := by
  have e : ∀ j (hj : j < l.length), rd_T44 l (j : Int) = l[j] := fun j hj => by unfold rd_T44; rw [Int.toNat_natCast, List.getD_eq_getElem?_getD, List.getElem?_eq_getElem hj]; rfl
  have : l.findIdx? p = none := by
    rw [List.findIdx?_eq_none_iff]
    intro x hx
    obtain ⟨j, hj, rfl⟩ := List.getElem_of_mem hx
    rw [← e j hj]; exact h j hj
  unfold idxR
  rw [this]
set_option maxHeartbeats 8000000 in
set_option maxRecDepth 100000 in
theorem index_rects (g : FuncId) (fn : Func) (lb : Array Value) (hf : Try.prog.funcs[g]? = some fn) (hname : (fn.name == "runtime.NumGoroutine") = false) (hbd : fn.body.isSome = true) (p : S44 → Bool) (A0 : Option Addr) (c0 : Nat) (l0 : List S44) (w : World) (hr0 : Kd.C k44 w A0 l0.length l0) (hc0 : l0.length ≤ c0) (hlen : l0.length < 1000000000000000000) (hp : PredR g lb p w) (r : Int) (hr : idxR p l0 = r) :
    Calls Try.prog 83 #[.slice A0 l0.length c0, .func (.func g) #[] lb] w fun e w' => e = .returned (.int .i64 r) ∧ Below w.heap.size w w' := by
  have hu44 := Try.underlying44
  have HR0 := Aside0.mk hr0
  have HC0 := Aside0.mk hc0
  have HP := Aside0.mk hp
  have HL := Aside0.mk hlen
  clear hr0 hc0 hp hlen
  go_enter Try.func83, Try.ntmps83
  go_wp2
  go_loopg [8] l0.length (fun kq v8 w' => ∃ i : Nat, v8 = .int .i64 (i : Int) ∧ Aside0 (i + kq = l0.length) ∧ Aside0 (∀ j : Nat, j < i → p (rd_T44 l0 j) = false) ∧ Aside0 (Below w.heap.size w w'))
  case atStart => exact ⟨0, rfl, ⟨by omega⟩, ⟨fun j hj => absurd hj (by omega)⟩, ⟨Below.refl _ _⟩⟩
  case round =>
    obtain ⟨i, rfl, HK, HA, HB⟩ := hrel
    have hk := HK.out
    have hl := HL.out
    cases gk with
    | zero =>
      have c4b0 : decide ((i : Int) < (l0.length : Int)) = false := decide_eq_false (by omega)
      rw [idxR_none (fun j hj => HA.out j (by omega))] at hr
      subst hr
      go_wp2
      go_ret
      exact ⟨rfl, HB.out⟩
    | succ k1 =>
      have c4b0 : decide ((i : Int) < (l0.length : Int)) = true := decide_eq_true (by omega)
      have p228 : 0 ≤ (i : Int) := by omega
      have q228 : (i : Int) < (l0.length : Int) := by omega
      obtain ⟨ad228, e228, hx228_0, hx228_1, hx228_2, hx228_3, hx228_4⟩ := at_T44 HR0.out i p228 q228
      cases e228
      rw [Int.toNat_natCast] at hx228_0 hx228_1 hx228_2 hx228_3 hx228_4
      replace hx228_0 := (HB.out.cell (World.block_lt_of_cell? w _ hx228_0)).trans hx228_0
      replace hx228_1 := (HB.out.cell (World.block_lt_of_cell? w _ hx228_1)).trans hx228_1
      replace hx228_2 := (HB.out.cell (World.block_lt_of_cell? w _ hx228_2)).trans hx228_2
      replace hx228_3 := (HB.out.cell (World.block_lt_of_cell? w _ hx228_3)).trans hx228_3
      replace hx228_4 := (HB.out.cell (World.block_lt_of_cell? w _ hx228_4)).trans hx228_4
      replace p228 := eq_true p228
      replace q228 := eq_true q228
      cases hpx : p (rd_T44 l0 (i : Int)) with
      | true =>
        rw [idxR_at (by omega) HA.out hpx] at hr
        subst hr
        go_wp2_with (first | (refine goesFR_ (some 16) rfl rfl hf hname hbd #[rectV (rd_T44 l0 (i : Int))] rfl rfl (by (try simp only [List.map_toArray, List.map_cons, List.map_nil]); first | done | rfl) ?_; refine (HP.out _ HB.out _).mono ?_; rintro e w1 ⟨rfl, hb⟩; rw [hpx]; refine ⟨_, rfl, ?_⟩; replace HB := Aside0.mk (below_step HB.out hb); clear hb))
        go_ret
        exact ⟨rfl, HB.out⟩
      | false =>
        go_wp2_with (first | (refine goesFR_ (some 16) rfl rfl hf hname hbd #[rectV (rd_T44 l0 (i : Int))] rfl rfl (by (try simp only [List.map_toArray, List.map_cons, List.map_nil]); first | done | rfl) ?_; refine (HP.out _ HB.out _).mono ?_; rintro e w1 ⟨rfl, hb⟩; rw [hpx]; refine ⟨_, rfl, ?_⟩; replace HB := Aside0.mk (below_step HB.out hb); clear hb))
        go_roundg k1
        case measure => omega
        case rel =>
          refine ⟨i + 1, ?_, ⟨by omega⟩, ⟨fun j hj => ?_⟩, ⟨HB.out⟩⟩
          · first
            | rfl
            | (congr 1; first | omega | (unfold wrap64; omega))
          · by_cases hji : j = i
            · rw [hji]; exact hpx
            · exact HA.out j (by omega)
theorem pred84 (w : World) (gb : Nat) (pane : Int) (hb : w.heap[gb]? = some (.cells #[.int .i64 pane] 3 (0, 0))) : PredR 84 #[.pointer (some ⟨gb, 0, none⟩)] (fun x => x.f0 == pane) w := by
  intro W hW x
  have hb' := blk_below hb hW
  have hu44 := Try.underlying44
  have hlt := blk_lt hb'
  have hb2 := blk_alloc hb' (.cells #[.int .i64 x.f0, .int .i64 x.f1, .int .i64 x.f2, .int .i64 x.f3, .int .i64 x.f4] 44)
  have y0 : (W.alloc (.cells #[.int .i64 x.f0, .int .i64 x.f1, .int .i64 x.f2, .int .i64 x.f3, .int .i64 x.f4] 44)).cell? ⟨gb, 0, none⟩ = some (.int .i64 pane) := (blk_cell hb2 0).trans rfl
  unfold rectV
  go_enter Try.func84, Try.ntmps84
  go_wp2
  go_ret
  exact ⟨rfl, below_alloc (Below.refl _ _) _⟩
end Go.Proofs.Ytplngfammfdemaa
end
section
namespace Go.Proofs.Ytplngfammfdemaa
open Go.RowKit Go.Shelf Go.Proofs.YtplngfammfdemaaW.PrintWords Go.Proofs.YtplngfammfdemaaW.PrintLast Go.Proofs.YtplngfammfdemaaW.PrintMore Q
attribute [local go_sem] Oper.semAt_some
set_option linter.unusedVariables false
set_option linter.unusedSimpArgs false
structure HasAt (w : World) (B1 B2 : Nat) (b : Bool) (p : Int) (W : World) : Prop where
  res : W.heap[B1]? = some (.cells #[.bool b] 4 (0, 0))
  box : W.heap[B2]? = some (.cells #[.int .i64 p] 3 (0, 0))
  below : Below w.heap.size w W
set_option maxRecDepth 100000 in
set_option maxHeartbeats 4000000 in
theorem has_loop (w : World) (t : S31) (A0 : Option Addr) (c0 : Nat) (k : Nat) (p : Int) (hC : Kd.C k31 w A0 t.f3.length t.f3) (ps : List Int) (hp : panesK k t = some ps) :
    CallsIn Fence.wide 5 Try.prog 74 #[treeV t A0 c0, .int .i64 p] w fun e w' => e = .returned (.bool (decide (p ∈ ps))) ∧ Below w.heap.size w w' := by
  have hu31 := Try.underlying31
  have HC := Aside0.mk hC
  have HP := Aside0.mk hp
  clear hC hp
  unfold treeV
  refine callsIn_of_wp_marks Try.func74 rfl trivial ?_ rfl
  simp only [Try.ntmps74, List.size_toArray, List.length_cons, List.length_nil, Nat.reduceAdd, Nat.reduceSub, Array.replicate_succ, Array.replicate_zero, List.push_toArray, List.append_toArray, List.nil_append, List.cons_append]
  gi_wp2
  refine ⟨trivial, ?_⟩
  refine (callsIn_wide.2 (panes_any t A0 c0 _)).mono ?_
  rintro e W3 ⟨rfl, rfl⟩
  obtain ⟨W4, hW4⟩ : ∃ W4, ((((w.alloc (.cells #[.int .i64 t.f0, .int .i64 t.f1, .int .i64 t.f2, .slice A0 t.f3.length c0] 31)).alloc (.cells #[.int .i64 p] 3)).alloc (.cells #[.bool false] 4)).alloc (.cells (treeC t A0 c0) 31)) = W4 := ⟨_, rfl⟩
  gi_wp2
  have hT4 : W4.heap[w.heap.size + 1 + 1 + 1]? = some (.cells (treeC t A0 c0) 31 (0, 0)) := by
    rw [← hW4]; have := blk_new (((w.alloc (.cells #[.int .i64 t.f0, .int .i64 t.f1, .int .i64 t.f2, .slice A0 t.f3.length c0] 31)).alloc (.cells #[.int .i64 p] 3)).alloc (.cells #[.bool false] 4)) (.cells (treeC t A0 c0) 31); rwa [World.size_alloc, World.size_alloc, World.size_alloc] at this
  have hR4 : W4.heap[w.heap.size + 1 + 1]? = some (.cells #[.bool false] 4 (0, 0)) := by
    rw [← hW4]; have := blk_new ((w.alloc (.cells #[.int .i64 t.f0, .int .i64 t.f1, .int .i64 t.f2, .slice A0 t.f3.length c0] 31)).alloc (.cells #[.int .i64 p] 3)) (.cells #[.bool false] 4); rw [World.size_alloc, World.size_alloc] at this; exact blk_alloc this _
  have hS4 : W4.heap[w.heap.size + 1]? = some (.cells #[.int .i64 p] 3 (0, 0)) := by
    rw [← hW4]; have := blk_new (w.alloc (.cells #[.int .i64 t.f0, .int .i64 t.f1, .int .i64 t.f2, .slice A0 t.f3.length c0] 31)) (.cells #[.int .i64 p] 3); rw [World.size_alloc] at this; exact blk_alloc (blk_alloc this _) _
  have hB4 : Below w.heap.size w W4 := by rw [← hW4]; exact below_alloc (below_alloc (below_alloc (below_alloc (Below.refl _ w) _) _) _) _
  have h0 : HasAt w (w.heap.size + 1 + 1) (w.heap.size + 1) false p W4 := ⟨hR4, hS4, hB4⟩
  have hle4 : w.heap.size ≤ W4.heap.size := hB4.size
  have hsz4 : W4.heap.size = w.heap.size + 4 := by rw [← hW4]; simp
  have hseq := panes_stops k (w.heap.size + 1 + 1 + 1) t A0 c0 ps w W4 hB4 HP.out hT4 HC.out
  have HSQ := Aside0.mk hseq
  clear hW4 hT4 hR4 hS4 hB4 hseq
  refine wpIn_rangeFunc_ownH rfl (by omega) (gf := 97) (lb := #[.pointer (some ⟨w.heap.size + 1 + 1 + 1, 0, none⟩)]) rfl trivial (enters_of Try.func97 (by kernel_rfl) rfl) HSQ.out belowK_t (belowK_b hle4) (Below.refl _ _) (fun _ => rfl)
    (fun pre W => HasAt w (w.heap.size + 1 + 1) (w.heap.size + 1) false p W ∧ p ∉ pre)
    (fun c pre W => c = .ret ∧ W.heap[w.heap.size + 1 + 1]? = some (.cells #[.bool true] 4 (0, 0)) ∧ Below w.heap.size w W ∧ p ∈ pre)
    ?own
    ?own2
    ⟨h0, by simp⟩
    (fun x a' W => a' = { tmps := #[Value.agg #[.int .i64 t.f0, .int .i64 t.f1, .int .i64 t.f2, .slice A0 t.f3.length c0], .int .i64 p, .pointer (some ⟨w.heap.size, 0, none⟩), .pointer (some ⟨w.heap.size + 1, 0, none⟩), .pointer (some ⟨w.heap.size + 1 + 1, 0, none⟩), .int .i64 x, .agg #[.int .i64 t.f0, .int .i64 t.f1, .int .i64 t.f2, .slice A0 t.f3.length c0], .func (.func 97) #[] #[.pointer (some ⟨w.heap.size + 1 + 1 + 1, 0, none⟩)], .int .i64 x, undef, undef, undef], defers := [] })
    ?ownx ?assign ?body ?done ?stop
  case own =>
    intro s A B row hs hg hr
    obtain ⟨⟨hres, hb, hB⟩, hp⟩ := hs
    refine ⟨⟨?_, ?_, ownFrom_below (Nat.le_refl _) hle4 s A B row hB hg hr⟩, hp⟩
    · exact (hg.block _ (blk_lt hres) (fun e => by obtain ⟨_, o, h1, h2⟩ := hr _ e.symm; rw [hres] at h1; cases h1; cases h2)).trans hres
    · exact (hg.block _ (blk_lt hb) (fun e => by obtain ⟨_, o, h1, h2⟩ := hr _ e.symm; rw [hb] at h1; cases h1; cases h2)).trans hb
  case own2 =>
    intro c s A B row hs hg hr
    obtain ⟨hc, hres, hB, hp⟩ := hs
    exact ⟨hc, (hg.block _ (blk_lt hres) (fun e => by obtain ⟨_, o, h1, h2⟩ := hr _ e.symm; rw [hres] at h1; cases h1; cases h2)).trans hres, ownFrom_below (Nat.le_refl _) hle4 s A B row hB hg hr, hp⟩
  case ownx =>
    rintro x a' s A B row h5 hg hr
    exact h5
  case assign =>
    rintro l pre x W K hI hK
    gi_wp2
    exact hK _ _ (KeepsFrom.refl _ _) (Below.refl _ _) hI rfl
  case body =>
    rintro l pre x a' W hl ⟨r, hr⟩ ⟨⟨hres, hb, hB⟩, hp⟩ rfl hlt
    have y0 : W.cell? ⟨w.heap.size + 1, 0, none⟩ = some (.int .i64 p) := (blk_cell hb 0).trans rfl
    have u0 := blk_frozen hres 0
    have r0 : W.cell? ⟨w.heap.size + 1 + 1, 0, none⟩ = some (.bool false) := (blk_cell hres 0).trans rfl
    have HRes := Aside0.mk hres
    have HBox := Aside0.mk hb
    have HB := Aside0.mk hB
    have HPr := Aside0.mk hp
    clear hres hb hB hp hr hlt
    by_cases hx : x = p
    · have hx1 : (x == p) = true := beq_iff_eq.2 hx
      have HX := Aside0.mk hx
      clear hx
      gi_wp2
      refine ⟨(KeepsOthers.setCell _ _ _).from _, rfl, ?_, ?_, ?_⟩
      · exact blk_put HRes.out 0 (.bool true) rfl
      · exact HB.out.setCell (p := ⟨w.heap.size + 1 + 1, 0, none⟩) (by show w.heap.size ≤ w.heap.size + 1 + 1; omega) _
      · rw [HX.out]; simp
    · have hx1 : (x == p) = false := beq_eq_false_iff_ne.2 hx
      have HX := Aside0.mk hx
      clear hx
      gi_wp2
      refine ⟨KeepsFrom.refl _ _, Below.refl _ _, ⟨HRes.out, HBox.out, HB.out⟩, ?_⟩
      intro h
      rcases List.mem_append.1 h with h | h
      · exact HPr.out h
      · exact HX.out (List.mem_singleton.1 h).symm
  case done =>
    rintro D ys W hD rfl ⟨⟨hres, hb, hB⟩, hp⟩ hK
    have u0 := blk_frozen hres 0
    have r0 : W.cell? ⟨w.heap.size + 1 + 1, 0, none⟩ = some (.bool false) := (blk_cell hres 0).trans rfl
    have HRes := Aside0.mk hres
    have HB := Aside0.mk hB
    have HG := Aside0.mk hp
    clear hres hb hB hp
    gi_wp2
    have hK' := (KeepsOthers.setCell W ⟨w.heap.size + 1 + 1, 0, none⟩ (.bool false)).same D _ hK rfl
    have hr2 := blk_put HRes.out 0 (.bool false) rfl
    have hB2 : Below w.heap.size w _ := HB.out.setCell (p := ⟨w.heap.size + 1 + 1, 0, none⟩) (by show w.heap.size ≤ w.heap.size + 1 + 1; omega) (.bool false)
    refine ⟨by simp, .inl ⟨_, _, rfl, run_takeDeferred hK', ?_⟩⟩
    have hx : ((W.setCell ⟨w.heap.size + 1 + 1, 0, none⟩ (.bool false)).putObj D (.deferred none)).cell? ⟨w.heap.size + 1 + 1, 0, none⟩ = some (.bool false) := (blk_cell ((World.putObj_heap_other (by omega)).trans hr2) 0).trans rfl
    refine ⟨.bool false, by simp [results, Try.results74, go_sem, hx], ?_, hB2.trans (belowK_b (w := w) (Nat.le_refl _) _ D _ _ (by omega) hK' rfl rfl)⟩
    rw [decide_eq_false HG.out]
  case stop =>
    rintro D c pre W hD hpre ⟨rfl, hres, hB, hp⟩ hK
    have HRes := Aside0.mk hres
    have HB := Aside0.mk hB
    have hg : p ∈ ps := hpre.subset hp
    have HG := Aside0.mk hg
    clear hres hB hp hg
    gi_wp2
    refine ⟨by simp, .inl ⟨_, _, rfl, run_takeDeferred hK, ?_⟩⟩
    have hx : (W.putObj D (.deferred none)).cell? ⟨w.heap.size + 1 + 1, 0, none⟩ = some (.bool true) := (blk_cell ((World.putObj_heap_other (by omega)).trans HRes.out) 0).trans rfl
    refine ⟨.bool true, by simp [results, Try.results74, go_sem, hx], ?_, HB.out.trans (belowK_b (w := w) (Nat.le_refl _) _ D _ _ (by omega) hK rfl rfl)⟩
    rw [decide_eq_true HG.out]
theorem has_any (w : World) (t : S31) (A0 : Option Addr) (c0 : Nat) (k : Nat) (p : Int) (hC : Kd.C k31 w A0 t.f3.length t.f3) (ps : List Int) (hp : panesK k t = some ps) :
    Calls Try.prog 74 #[treeV t A0 c0, .int .i64 p] w fun e w' => e = .returned (.bool (decide (p ∈ ps))) ∧ Below w.heap.size w w' :=
  callsIn_wide.1 (has_loop w t A0 c0 k p hC ps hp)
end Go.Proofs.Ytplngfammfdemaa
end
section
namespace Go.Proofs.Ytplngfammfdemaa
open Go.RowKit Go.Proofs.YtplngfammfdemaaW.PrintWords Go.Proofs.YtplngfammfdemaaW.PrintLast Go.Proofs.YtplngfammfdemaaW.PrintMore Q
set_option linter.unusedVariables false
set_option linter.unusedSimpArgs false
open Kd in
theorem lit_R (W : World) (base n : Nat) (hn : W.heap.size = n) (hb : base ≤ W.heap.size) (xs : List S31) (inner : List Value) (hm : xs.length ≤ 1000) (hrep : Reps (k31.M W base (fun _ => True)) k31.sz xs inner) : Kd.R k31 31 (W.alloc (.cells inner.toArray 31)) base (fun _ => True) (.slice (some ⟨n, 0, none⟩) xs.length xs.length) xs := by
  subst hn
  refine ⟨fun k hk => trivial, inner, ?_, ?_⟩
  · have h2 := World.ownsRow_lit (base := base) (e := 31) (size := k31.sz) W inner.toArray xs.length hb (by simp [maxLen]; omega) (by simpa using hrep.1)
    simpa using h2
  · refine hrep.imp_ (fun p c hp => k31.M_mono (fun k hk => ⟨trivial, fun he => ?_⟩) (M_below (k31.M_bound hp) (below_alloc (Below.refl _ _) _)))
    have h3 : k = W.heap.size := by simpa [Value.ownBlock] using he
    have := hk.2.2.1
    omega
set_option maxRecDepth 100000 in
set_option maxHeartbeats 4000000 in
theorem split_leaf (w : World) (A : Option Addr) (c : Nat) :
    Calls Try.prog 86 #[.agg #[.int .i64 0, .int .i64 1, .int .i64 0, .slice A 0 c], .int .i64 1, .int .i64 1, .int .i64 2, .int .i64 10] w fun e w' => ∃ v : Value, e = .returned (.agg #[.int .i64 1, .int .i64 0, .int .i64 0, v]) ∧ Kd.R k31 31 w' w.heap.size (fun _ => True) v [⟨0, 1, 5, []⟩, ⟨0, 2, 4, []⟩] ∧ Below w.heap.size w w' := by
  have hu31 := Try.underlying31
  go_enter Try.func86, Try.ntmps86
  go_wp2
  trace_state
  refine bodyPost_ret (v := .agg #[.int .i64 1, .int .i64 0, .int .i64 0, .slice (some ⟨w.heap.size + 1 + 1 + 1 + 1, 0, none⟩) 2 2]) (by simp [results, Try.results86, go_sem]) rfl ⟨_, rfl, ?_, ?_⟩
  · refine lit_R _ _ _ (by simp only [World.size_alloc]) ?_ [⟨0, 1, 5, []⟩, ⟨0, 2, 4, []⟩] [.int .i64 0, .int .i64 1, .int .i64 5, .slice none 0 0, .int .i64 0, .int .i64 2, .int .i64 4, .slice none 0 0] (by simp) (Reps.c4 (k31_mkM _ _ _ ⟨0, 1, 5, []⟩ (Kd.R_nil _ _ _ _ _)) (Reps.c4 (k31_mkM _ _ _ ⟨0, 2, 4, []⟩ (Kd.R_nil _ _ _ _ _)) ⟨rfl, fun j p hj => by simp at hj⟩))
    simp only [World.size_alloc]; omega
  · repeat (first | exact Below.refl _ _ | apply below_alloc)
end Go.Proofs.Ytplngfammfdemaa
end
section
namespace Go.Proofs.Ytplngfammfdemaa
open Go.RowKit Go.Proofs.YtplngfammfdemaaW.PrintWords Go.Proofs.YtplngfammfdemaaW.PrintLast Go.Proofs.YtplngfammfdemaaW.PrintMore Q
set_option linter.unusedVariables false
set_option linter.unusedSimpArgs false
theorem drawn_below {W W' : World} (h : Drawn0 W W') : Below W.heap.size W W' := by
  obtain ⟨n, rfl⟩ := h
  exact pw_below_drewN (Below.refl _ _) _
theorem in1 : tree_in.f 1 1 2 = some true := by kernel_rfl
theorem in2 : tree_in.f 2 1 999 = some true := by kernel_rfl
theorem al1 : tree_along.f 1 10 5 = some 10 := by kernel_rfl
theorem rects_alive : tree_Rects.f 40 0 1 0 [] 10 5 = some ([⟨1, 0, 0, 10, 5⟩], 0) := by kernel_rfl
set_option maxRecDepth 100000 in
set_option maxHeartbeats 4000000 in
theorem split_alive (w : World) (A : Option Addr) (c : Nat) (hC : Kd.C k31 w A 0 []) :
    Calls Try.prog 42 #[.agg #[.int .i64 0, .int .i64 1, .int .i64 0, .slice A 0 c], .int .i64 10, .int .i64 5, .int .i64 1, .int .i64 1, .int .i64 2] w fun e w' => ∃ v : Value, e = .returned (.tuple #[.agg #[.int .i64 1, .int .i64 0, .int .i64 0, v], .int .i64 0]) ∧ Kd.R k31 31 w' w.heap.size (fun _ => True) v [⟨0, 1, 5, []⟩, ⟨0, 2, 4, []⟩] ∧ Below w.heap.size w w' := by
  have hu31 := Try.underlying31
  have hu44 := Try.underlying44
  have HC := Aside0.mk hC
  have HB := Aside0.mk (Below.refl w.heap.size w)
  clear hC
  go_enter Try.func42, Try.ntmps42
  go_wp2_with (first | ((with_reducible refine gate_dst (N := 6) rfl ?_); (try (refine gate_guard (by rfl) ?_; dsimp only)); refine box_event ?hg (N := 6) ?hd (cs := #[.int .i64 0, .int .i64 1, .int .i64 0, .slice A 0 c]) (t := 31) ?hr ?_; (case hd => rfl); (case hg => rfl); (case hr => first | (go_simp; done) | (go_simp; rfl)); intro g6 hg w6 hbox hb; replace HB := Aside0.mk (below_step HB.out hb); have BK6 := Aside0.mk hbox; have G6 := Aside0.mk hg; clear hbox hb hg) | ((with_reducible refine gate_dst (N := 9) rfl ?_); (try (refine gate_guard (by rfl) ?_; dsimp only)); refine box_event ?hg (N := 9) ?hd (cs := #[.int .i64 1]) (t := 3) ?hr ?_; (case hd => rfl); (case hg => rfl); (case hr => first | (go_simp; done) | (go_simp; rfl)); intro g9 hg w9 hbox hb; replace HB := Aside0.mk (below_step HB.out hb); replace BK6 := Aside0.mk (blk_below BK6.out hb); have BK9 := Aside0.mk hbox; have G9 := Aside0.mk hg; clear hbox hb hg) | ((with_reducible refine gate_dst (N := 12) rfl ?_); (try (refine gate_guard (by rfl) ?_; dsimp only)); refine box_event ?hg (N := 12) ?hd (cs := #[.int .i64 0, .int .i64 0, .int .i64 0, .slice none 0 0]) (t := 31) ?hr ?_; (case hd => rfl); (case hg => rfl); (case hr => first | (go_simp; done) | (go_simp; rfl)); intro g12 hg w12 hbox hb; have GS := Aside0.mk (HB.out.size); have GE12 := Aside0.mk (show w.heap.size ≤ g12 by have := GS.out; omega); replace HB := Aside0.mk (below_step HB.out hb); replace BK6 := Aside0.mk (blk_below BK6.out hb); replace BK9 := Aside0.mk (blk_below BK9.out hb); have BK12 := Aside0.mk hbox; have G12 := Aside0.mk hg; clear hbox hb hg; obtain ⟨hz0, hz1, hz2, hz3, hf0, hf1, hf2, hf3⟩ := cz4 BK6.out; have yz0 := (blk_cell BK9.out 0).trans (show _ = some (Value.int .i64 1) from rfl); have yf0 := blk_frozen BK9.out 0) | ((with_reducible refine gate_callee (f := 18) rfl ?_); refine ga (some 22) rfl rfl Try.func18 (by kernel_rfl) rfl #[.agg #[.int .i64 0, .int .i64 1, .int .i64 0, .slice A 0 c], .int .i64 10, .int .i64 5] rfl ?_; (refine (tree_Rects.calls 40 0 1 0 A c [] 10 5 [⟨1, 0, 0, 10, 5⟩] 0 _ ?side1 ?side2 rects_alive).mono ?_); (case side1 => exact Kd.C_below HC.out HB.out); (case side2 => exact Nat.zero_le _); rintro e w18 ⟨v18, rfl, ho, hb⟩; refine ⟨_, rfl, ?_⟩; replace BK6 := Aside0.mk (blk_below BK6.out hb); replace BK9 := Aside0.mk (blk_below BK9.out hb); replace BK12 := Aside0.mk (blk_below BK12.out hb); replace HB := Aside0.mk (below_step HB.out hb); clear hz0 hz1 hz2 hz3 hf0 hf1 hf2 hf3 yz0 yf0; obtain ⟨hz0, hz1, hz2, hz3, hf0, hf1, hf2, hf3⟩ := cz4 BK6.out; have yz0 := (blk_cell BK9.out 0).trans (show _ = some (Value.int .i64 1) from rfl); have yf0 := blk_frozen BK9.out 0; obtain ⟨A4, c4, rfl⟩ := Kd.R_slice ho; have HL4 := Aside0.mk (Kd.R_reads' ho).2.1; have HR4 := Aside0.mk (Kd.R_reads' ho).2.2; clear ho hb) | (go_at_call 82; first | (with_reducible refine (tree_in.calls 1 1 2 true _ in1).mono ?_; rintro e w82 ⟨rfl, hd⟩; have hb := drawn_below hd; clear hd; replace BK6 := Aside0.mk (blk_below BK6.out hb); replace BK9 := Aside0.mk (blk_below BK9.out hb); replace BK12 := Aside0.mk (blk_below BK12.out hb); replace HB := Aside0.mk (below_step HB.out hb); clear hz0 hz1 hz2 hz3 hf0 hf1 hf2 hf3 yz0 yf0; obtain ⟨hz0, hz1, hz2, hz3, hf0, hf1, hf2, hf3⟩ := cz4 BK6.out; have yz0 := (blk_cell BK9.out 0).trans (show _ = some (Value.int .i64 1) from rfl); have yf0 := blk_frozen BK9.out 0; replace HR4 := Aside0.mk (Kd.C_below HR4.out hb); clear hb) | (with_reducible refine (tree_in.calls 2 1 999 true _ in2).mono ?_; rintro e w82 ⟨rfl, hd⟩; have hb := drawn_below hd; clear hd; replace BK6 := Aside0.mk (blk_below BK6.out hb); replace BK9 := Aside0.mk (blk_below BK9.out hb); replace BK12 := Aside0.mk (blk_below BK12.out hb); replace HB := Aside0.mk (below_step HB.out hb); clear hz0 hz1 hz2 hz3 hf0 hf1 hf2 hf3 yz0 yf0; obtain ⟨hz0, hz1, hz2, hz3, hf0, hf1, hf2, hf3⟩ := cz4 BK6.out; have yz0 := (blk_cell BK9.out 0).trans (show _ = some (Value.int .i64 1) from rfl); have yf0 := blk_frozen BK9.out 0; replace HR4 := Aside0.mk (Kd.C_below HR4.out hb); clear hb)) | ((with_reducible refine gate_callee (f := 83) rfl ?_); refine ga (some 40) rfl rfl Try.func83 (by kernel_rfl) rfl #[.slice A4 1 c4, .func (.func 84) #[] #[.pointer (some ⟨g9, 0, none⟩)]] rfl ?_; (refine (index_rects 84 _ _ Try.func84 (by kernel_rfl) (by kernel_rfl) (fun x => x.f0 == 1) A4 c4 [⟨1, 0, 0, 10, 5⟩] _ ?s1 HL4.out (by simp) (pred84 _ g9 1 ?s2) 0 (by kernel_rfl)).mono ?_); (case s1 => exact HR4.out); (case s2 => exact BK9.out); rintro e w83 ⟨rfl, hb⟩; refine ⟨_, rfl, ?_⟩; replace BK6 := Aside0.mk (blk_below BK6.out hb); replace BK9 := Aside0.mk (blk_below BK9.out hb); replace BK12 := Aside0.mk (blk_below BK12.out hb); replace HB := Aside0.mk (below_step HB.out hb); clear hz0 hz1 hz2 hz3 hf0 hf1 hf2 hf3 yz0 yf0; obtain ⟨hz0, hz1, hz2, hz3, hf0, hf1, hf2, hf3⟩ := cz4 BK6.out; have yz0 := (blk_cell BK9.out 0).trans (show _ = some (Value.int .i64 1) from rfl); have yf0 := blk_frozen BK9.out 0; replace HR4 := Aside0.mk (Kd.C_below HR4.out hb); clear hb) | ((with_reducible refine gate_callee (f := 74) rfl ?_); refine ga (some 48) rfl rfl Try.func74 (by kernel_rfl) rfl #[treeV ⟨0, 1, 0, []⟩ A c, .int .i64 2] rfl ?_; (refine (has_any _ ⟨0, 1, 0, []⟩ A c 5 2 ?s1 [1] (by kernel_rfl)).mono ?_); (case s1 => exact Kd.C_below HC.out HB.out); rintro e w74 ⟨rfl, hb⟩; refine ⟨_, rfl, ?_⟩; replace BK6 := Aside0.mk (blk_below BK6.out hb); replace BK9 := Aside0.mk (blk_below BK9.out hb); replace BK12 := Aside0.mk (blk_below BK12.out hb); replace HB := Aside0.mk (below_step HB.out hb); clear hz0 hz1 hz2 hz3 hf0 hf1 hf2 hf3 yz0 yf0; obtain ⟨hz0, hz1, hz2, hz3, hf0, hf1, hf2, hf3⟩ := cz4 BK6.out; have yz0 := (blk_cell BK9.out 0).trans (show _ = some (Value.int .i64 1) from rfl); have yf0 := blk_frozen BK9.out 0; replace HR4 := Aside0.mk (Kd.C_below HR4.out hb); clear hb; obtain ⟨ad, ead, hx0, hx1, hx2, hx3, hx4⟩ := at_T44 HR4.out 0 (by omega) (by simp); cases ead))
  rw [show ((0 : Int)).toNat = 0 from rfl, show 0 * 5 = 0 from rfl, Addr.add_zero'] at hx0 hx1 hx2 hx3 hx4
  replace hx3 := hx3.trans (show _ = some (Value.int IntKind.i64 10) from rfl)
  replace hx4 := hx4.trans (show _ = some (Value.int IntKind.i64 5) from rfl)
  go_region_held3 (fun w' => w'.cell? ⟨ad.block, ad.off + 3, none⟩ = some (.int .i64 10) ∧ w'.cell? ⟨ad.block, ad.off + 4, none⟩ = some (.int .i64 5)) (go_keep) (first | (go_at_call 85; with_reducible refine (tree_along.calls 1 10 5 10 _ al1).mono ?_; rintro e w85 ⟨rfl, nd3, rfl⟩))
  have hb : Below w74.heap.size w74 (w74.drewN (1 + nd3)) := pw_below_drewN (Below.refl _ _) _
  generalize w74.drewN (1 + nd3) = w85 at hb ⊢
  replace BK6 := Aside0.mk (blk_below BK6.out hb); replace BK9 := Aside0.mk (blk_below BK9.out hb); replace BK12 := Aside0.mk (blk_below BK12.out hb); replace HB := Aside0.mk (below_step HB.out hb); clear hz0 hz1 hz2 hz3 hf0 hf1 hf2 hf3 yz0 yf0; obtain ⟨hz0, hz1, hz2, hz3, hf0, hf1, hf2, hf3⟩ := cz4 BK6.out; have yz0 := (blk_cell BK9.out 0).trans (show _ = some (Value.int .i64 1) from rfl); have yf0 := blk_frozen BK9.out 0; clear hb
  go_wp2_with (first | ((with_reducible refine gate_callee (f := 86) rfl ?_); refine ga (some 75) rfl rfl Try.func86 (by kernel_rfl) rfl #[.agg #[.int .i64 0, .int .i64 1, .int .i64 0, .slice A 0 c], .int .i64 1, .int .i64 1, .int .i64 2, .int .i64 10] rfl ?_; (refine (split_leaf _ A c).mono ?_); rintro e w86 ⟨v86, rfl, ho0, hb⟩; refine ⟨_, rfl, ?_⟩; have ho := Kd.R_lower (Kd.R_newB ho0 BK12.out) HB.out.size; clear ho0; replace BK6 := Aside0.mk (blk_below BK6.out hb); replace BK9 := Aside0.mk (blk_below BK9.out hb); replace BK12 := Aside0.mk (blk_below BK12.out hb); replace HB := Aside0.mk (below_step HB.out hb); clear hz0 hz1 hz2 hz3 hf0 hf1 hf2 hf3 yz0 yf0; obtain ⟨hz0, hz1, hz2, hz3, hf0, hf1, hf2, hf3⟩ := cz4 BK6.out; have yz0 := (blk_cell BK9.out 0).trans (show _ = some (Value.int .i64 1) from rfl); have yf0 := blk_frozen BK9.out 0; obtain ⟨A6, c6, rfl⟩ := Kd.R_slice ho; have HO := Aside0.mk ho; clear ho hb; obtain ⟨uz0, uz1, uz2, uz3, uf0, uf1, uf2, uf3⟩ := cz4 BK12.out) | ((with_reducible refine gate_store (t := 31) (p := 12) rfl ?_); refine store_event (t := 31) (p := 12) (v := ?vo) (w1 := ((((w86.setCell ⟨g12, 0, none⟩ (.int .i64 1)).setCell ⟨g12, 1, none⟩ (.int .i64 0)).setCell ⟨g12, 2, none⟩ (.int .i64 0)).setCell ⟨g12, 3, none⟩ (.slice A6 2 c6))) ?hg ?ho ?hn ?hr ?_; (case ho => rfl); (case hg => rfl); (case hn => rfl); (case hr => first | (go_simp; done) | (go_simp; rfl)); intro w87 hw; have n0_ : Aside0 (Kd.R k31 31 w87 w.heap.size (fun _ => True) (.slice A6 2 c6) [⟨0, 1, 5, []⟩, ⟨0, 2, 4, []⟩]) := ⟨by rw [hw]; exact Kd.R_mono (Kd.R_far (p := ⟨g12, 3, none⟩) (Kd.R_far (p := ⟨g12, 2, none⟩) (Kd.R_far (p := ⟨g12, 1, none⟩) (Kd.R_far (p := ⟨g12, 0, none⟩) (Kd.R_mono HO.out (fun k_ hk => (⟨trivial, hk.2⟩ : True ∧ k_ ≠ g12))) (fun _ hk => hk.2) (.int .i64 1)) (fun _ hk => hk.2) (.int .i64 0)) (fun _ hk => hk.2) (.int .i64 0)) (fun _ hk => hk.2) (.slice A6 2 c6)) (fun _ _ => trivial)⟩; have n1_ : Aside0 (w87.heap[g12]? = some (.cells #[.int .i64 1, .int .i64 0, .int .i64 0, .slice A6 2 c6] 31 (0, 0))) := ⟨by rw [hw]; exact put4 BK12.out⟩; have n2_ : Aside0 (Below w.heap.size w w87) := ⟨by rw [hw]; repeat first | refine below_set ?_ GE12.out | exact HB.out⟩; clear hw; obtain ⟨tz0, tz1, tz2, tz3, tf0, tf1, tf2, tf3⟩ := cz4 n1_.out))
  refine bodyPost_ret (v := .tuple #[.agg #[.int .i64 1, .int .i64 0, .int .i64 0, .slice A6 2 c6], .int .i64 0]) (by simp [results, Try.results42, go_sem, tz0, tz1, tz2, tz3]) rfl ⟨_, rfl, n0_.out, n2_.out⟩
end Go.Proofs.Ytplngfammfdemaa
end
section
namespace Go.Proofs.Ytplngfammfdemaa
set_option linter.unusedVariables false
open Go.RowKit Go.Proofs.YtplngfammfdemaaW.PrintWords Go.Proofs.YtplngfammfdemaaW.PrintLast Go.Proofs.YtplngfammfdemaaW.PrintMore Q
def tree_Split.f (k : Nat) (a0 a1 a2 : Int) (l : List S31) (b1 b2 b3 b4 b5 : Int) : Option (Int × Int × Int × List S31 × Int) :=
  if a0 = 0 ∧ a1 = 1 ∧ a2 = 0 ∧ l.length = 0 ∧ b1 = 10 ∧ b2 = 5 ∧ b3 = 1 ∧ b4 = 1 ∧ b5 = 2 then some (1, 0, 0, [⟨0, 1, 5, []⟩, ⟨0, 2, 4, []⟩], 0) else none
theorem tree_Split.mono : ∀ a0 a1 a2 a3 a4 a5 a6 a7 a8 k, LeO (tree_Split.f k a0 a1 a2 a3 a4 a5 a6 a7 a8) (tree_Split.f (k + 1) a0 a1 a2 a3 a4 a5 a6 a7 a8) := fun _ _ _ _ _ _ _ _ _ _ => LeO.refl _
theorem tree_Split.calls (k : Nat) (a0 a1 a2 : Int) (A : Option Addr) (c : Nat) (l : List S31) (b1 b2 b3 b4 b5 r1 r2 r3 : Int) (r4 : List S31) (r5 : Int) (w : World) (hC : Kd.C k31 w A l.length l) (hc : l.length ≤ c) (h : tree_Split.f k a0 a1 a2 l b1 b2 b3 b4 b5 = some (r1, r2, r3, r4, r5)) :
    Calls Try.prog 42 #[.agg #[.int .i64 a0, .int .i64 a1, .int .i64 a2, .slice A l.length c], .int .i64 b1, .int .i64 b2, .int .i64 b3, .int .i64 b4, .int .i64 b5] w fun e w' => ∃ v : Value, e = .returned (.tuple #[.agg #[.int .i64 r1, .int .i64 r2, .int .i64 r3, v], .int .i64 r5]) ∧ Kd.R k31 31 w' w.heap.size (fun _ => True) v r4 ∧ Below w.heap.size w w' := by
  unfold tree_Split.f at h
  split at h
  case isTrue hh =>
    obtain ⟨rfl, rfl, rfl, hl, rfl, rfl, rfl, rfl, rfl⟩ := hh
    obtain rfl := List.eq_nil_of_length_eq_zero hl
    have h' := Option.some.inj h
    simp only [Prod.mk.injEq] at h'
    obtain ⟨rfl, rfl, rfl, rfl, rfl⟩ := h'
    exact split_alive w A c hC
  case isFalse => cases h
end Go.Proofs.Ytplngfammfdemaa
end
