-- Copies of the texts YtplngfammfdemaaMF1, YtplngfammfdemaaMT1, YtplngfammfdemaaMT2, YtplngfammfdemaaMT3, YtplngfammfdemaaTS0, YtplngfammfdemaaTS1, YtplngfammfdemaaTS2 with what this claim does not reach left out (prune.py, a program of this project).
import Derived.Test.YtplngfammfdemaaZyMF0
import Derived.Test.YtplngfammfdemaaZyQx27
import Derived.Test.YtplngfammfdemaaZyGCont
section
namespace Go.Proofs.Ytplngfammfdemaa
open Go.RowKit Go.Proofs.YtplngfammfdemaaW.PrintWords Go.Proofs.YtplngfammfdemaaW.PrintMore Q
set_option linter.unusedVariables false
set_option linter.unusedSimpArgs false
def MadeAt (K : Nat) (t : S31) (w h deep : Int) : Prop := ∀ k, K ≤ k → tree_made.f k t.f0 t.f1 t.f2 t.f3 w h deep = some true
def LieAt (K : Nat) (t : S31) (x y w h : Int) (rs : List S44) : Prop := ∀ k, K ≤ k → tree_lie.f k t.f0 t.f1 t.f2 t.f3 0 x y w h = some rs
theorem tin_yes {a lo hi : Int} (h : lo ≤ a ∧ a ≤ hi) : tree_in.f a lo hi = some true := by
  unfold tree_in.f; rw [if_pos h.1, decide_eq_true h.2]
theorem made_leaf (p s w h deep : Int) (hp : 1 ≤ p ∧ p ≤ 999) : MadeAt 1 ⟨0, p, s, []⟩ w h deep := by
  intro k hk
  obtain ⟨k, rfl⟩ : ∃ m, k = m + 1 := ⟨k - 1, by omega⟩
  simp only [tree_made.f]
  rw [if_pos trivial, if_pos (by rfl), tin_yes hp]; rfl
/-- A kid's columns and rows, of its tree's. -/
def kw (kind : Int) (t : S31) (w : Int) : Int := if kind = 1 then t.f2 else w
def kh (kind : Int) (t : S31) (h : Int) : Int := if kind = 1 then h else t.f2
theorem sized_f (kind a b c : Int) (l : List S31) (w h : Int) : tree_sized.f kind a b c l w h = some (if kind = 1 then c else w, if kind = 1 then h else c) := by
  unfold tree_sized.f; split <;> rfl
def sumS (l : List S31) : Int := (l.map (·.f2)).sum
theorem sumS_cons (t : S31) (l : List S31) : sumS (t :: l) = t.f2 + sumS l := by simp [sumS]
theorem rd31_drop (l : List S31) (i : Nat) (h : i < l.length) : l.drop i = rd_T31 l (i : Int) :: l.drop (i + 1) := by
  rw [List.drop_eq_getElem_cons h, rd31_get l i h]
theorem rd31_mem (l : List S31) (i : Nat) (h : i < l.length) : rd_T31 l (i : Int) ∈ l := by
  rw [rd31_get l i h]; exact List.getElem_mem h
theorem made_node (K : Nat) (kind f1 f2 : Int) (kids : List S31) (w h deep : Int) (hkind : kind = 1 ∨ kind = 2) (hf1 : f1 = 0) (h2 : 2 ≤ kids.length) (h10 : kids.length ≤ 10) (hd0 : 0 ≤ deep) (hd : deep ≤ 8)
    (hk : ∀ t ∈ kids, t.f0 ≠ kind ∧ 1 ≤ t.f2 ∧ t.f2 ≤ 80 ∧ MadeAt K t (kw kind t w) (kh kind t h) (deep + 1)) (hs : sumS kids + kids.length - 1 = (if kind = 1 then w else h)) : MadeAt (K + kids.length + 4) ⟨kind, f1, f2, kids⟩ w h deep := by
  have loop : ∀ d i k (acc : Int), i + d = kids.length → K + d + 1 ≤ k → 0 ≤ acc → acc ≤ 10 + 80 * i → acc + sumS (kids.drop i) = (if kind = 1 then w else h) → tree_made.l0 k w h deep acc kids (kids.length : Int) (i : Int) kind f1 f2 kids = some true := by
    intro d
    induction d with
    | zero =>
      intro i k acc hi hk' ha hb hsum
      obtain ⟨k, rfl⟩ : ∃ m, k = m + 1 := ⟨k - 1, by omega⟩
      simp only [tree_made.l0]
      rw [if_neg (by omega)]
      have hal : tree_along.f kind w h = some (if kind = 1 then w else h) := by unfold tree_along.f; split <;> rfl
      rw [hal, Option.bind_some]
      rw [List.drop_eq_nil_of_le (by omega)] at hsum
      simp only [sumS, List.map_nil, List.sum_nil] at hsum
      rw [← hsum]; simp
    | succ d ih =>
      intro i k acc hi hk' ha hb hsum
      obtain ⟨k, rfl⟩ : ∃ m, k = m + 1 := ⟨k - 1, by omega⟩
      simp only [tree_made.l0]
      rw [if_pos (by omega), if_pos (by omega), if_pos (by omega), sized_f]
      obtain ⟨g1, g2, g3, g4⟩ := hk _ (rd31_mem kids i (by omega))
      simp only [Option.bind_some]
      rw [if_neg g1, tin_yes ⟨g2, g3⟩]
      simp only [Option.bind_some, if_true]
      rw [wrap_i (i := deep + 1) (by omega) (by omega)]
      have := g4 k (by omega)
      unfold kw kh at this
      rw [this]
      simp only [Option.bind_some, if_true]
      rw [wrap_i (by omega) (by omega), wrap_i (by omega) (by omega), show ((i : Int) + 1) = ((i + 1 : Nat) : Int) by omega]
      refine ih (i + 1) k _ (by omega) (by omega) (by omega) (by omega) ?_
      rw [rd31_drop kids i (by omega), sumS_cons] at hsum
      omega
  intro k hk'
  obtain ⟨k, rfl⟩ : ∃ m, k = m + 1 := ⟨k - 1, by omega⟩
  obtain ⟨k, rfl⟩ : ∃ m, k = m + 1 := ⟨k - 1, by omega⟩
  simp only [tree_made.f]
  rw [if_neg (by omega), tin_yes (by omega)]
  simp only [Option.bind_some, if_true]
  rw [if_pos hf1, if_neg (by omega)]
  simp only [tree_made.j0]
  rw [if_neg (by simp; omega), wrap_i (by omega) (by omega)]
  exact loop kids.length 0 k _ (by omega) (by omega) (by omega) (by omega) (by rw [List.drop_zero]; omega)
/-- Where the kids lie, one behind the other. -/
def LieKids (K : Nat) (kind w h : Int) : List S31 → Int → Int → List S44 → Prop
  | [], _, _, rs => rs = []
  | t :: l, x, y, rs => ∃ r1 r2, rs = r1 ++ r2 ∧ r1.length ≤ 10 ∧ LieAt K t x y (kw kind t w) (kh kind t h) r1 ∧ LieKids K kind w h l (if kind = 1 then x + (t.f2 + 1) else x) (if kind = 1 then y else y + (t.f2 + 1)) r2
theorem lie_node (K : Nat) (kind f1 f2 : Int) (kids : List S31) (x y w h : Int) (hkind : kind = 1 ∨ kind = 2) (h10 : kids.length ≤ 10) (hx : 0 ≤ x ∧ x ≤ 1000) (hy : 0 ≤ y ∧ y ≤ 1000) (hk : ∀ t ∈ kids, 1 ≤ t.f2 ∧ t.f2 ≤ 80) (rs : List S44) (hrs : LieKids K kind w h kids x y rs) : LieAt (K + kids.length + 4) ⟨kind, f1, f2, kids⟩ x y w h rs := by
  have loop : ∀ d i k (acc rs : List S44) (x' y' : Int), i + d = kids.length → K + d + 1 ≤ k → 0 ≤ x' → x' ≤ 1000 + 81 * i → 0 ≤ y' → y' ≤ 1000 + 81 * i → acc.length ≤ 10 * i → LieKids K kind w h (kids.drop i) x' y' rs → tree_lie.l0 k acc x' y' kids (kids.length : Int) (i : Int) kind f1 f2 kids 0 x y w h = some (acc ++ rs) := by
    intro d
    induction d with
    | zero =>
      intro i k acc rs x' y' hi hk' _ _ _ _ hacc hl
      obtain ⟨k, rfl⟩ : ∃ m, k = m + 1 := ⟨k - 1, by omega⟩
      simp only [tree_lie.l0]
      rw [if_neg (by omega)]
      rw [List.drop_eq_nil_of_le (by omega)] at hl
      rw [show rs = [] from hl, List.append_nil]
    | succ d ih =>
      intro i k acc rs x' y' hi hk' hx0 hx1 hy0 hy1 hacc hl
      obtain ⟨k, rfl⟩ : ∃ m, k = m + 1 := ⟨k - 1, by omega⟩
      simp only [tree_lie.l0]
      rw [if_pos (by omega), if_pos (by omega), if_pos (by omega), sized_f]
      rw [rd31_drop kids i (by omega)] at hl
      obtain ⟨r1, r2, rfl, hlen, h1, h2⟩ := hl
      obtain ⟨g1, g2⟩ := hk _ (rd31_mem kids i (by omega))
      simp only [Option.bind_some]
      have := h1 k (by omega)
      unfold kw kh at this
      rw [this]
      simp only [Option.bind_some]
      rw [if_pos (by omega)]
      rcases hkind with rfl | rfl
      · simp only [if_true] at h2 ⊢
        rw [wrap_i (i := (rd_T31 kids (i : Int)).f2 + 1) (by omega) (by omega), wrap_i (i := x' + _) (by omega) (by omega), wrap_i (by omega) (by omega), show ((i : Int) + 1) = ((i + 1 : Nat) : Int) by omega, ih (i + 1) k (acc ++ r1) r2 _ y' (by omega) (by omega) (by omega) (by omega) hy0 (by omega) (by rw [List.length_append]; omega) h2, List.append_assoc]
      · simp only [show ((2 : Int) = 1) = False from eq_false (by omega), if_false] at h2 ⊢
        rw [wrap_i (i := (rd_T31 kids (i : Int)).f2 + 1) (by omega) (by omega), wrap_i (i := y' + _) (by omega) (by omega), wrap_i (by omega) (by omega), show ((i : Int) + 1) = ((i + 1 : Nat) : Int) by omega, ih (i + 1) k (acc ++ r1) r2 x' _ (by omega) (by omega) hx0 (by omega) (by omega) (by omega) (by rw [List.length_append]; omega) h2, List.append_assoc]
  intro k hk'
  obtain ⟨k, rfl⟩ : ∃ m, k = m + 1 := ⟨k - 1, by omega⟩
  simp only [tree_lie.f]
  rw [if_neg (by omega)]
  have := loop kids.length 0 k [] rs x y (by omega) (by omega) hx.1 (by omega) hy.1 (by omega) (by simp) (by rw [List.drop_zero]; exact hrs)
  rw [List.nil_append] at this
  exact this
end Go.Proofs.Ytplngfammfdemaa
end
section
namespace Go.Proofs.Ytplngfammfdemaa
open Go.RowKit Go.Proofs.YtplngfammfdemaaW.PrintWords Go.Proofs.YtplngfammfdemaaW.PrintMore Q
set_option linter.unusedVariables false
set_option linter.unusedSimpArgs false
/-- No tree in it has more than 60 kids; so deep at most. -/
def Few : Nat → S31 → Prop
  | 0, _ => False
  | d + 1, t => t.f3.length ≤ 60 ∧ ∀ x ∈ t.f3, Few d x
theorem tin_some (a lo hi : Int) : ∃ b, tree_in.f a lo hi = some b := by
  unfold tree_in.f; split <;> exact ⟨_, rfl⟩
theorem made_ends : ∀ d (t : S31), Few d t → ∀ w h deep, ∃ r, ∀ k, 70 * d ≤ k → tree_made.f k t.f0 t.f1 t.f2 t.f3 w h deep = some r := by
  intro d
  induction d with
  | zero => intro t h; exact h.elim
  | succ d ih =>
    intro t ht w h deep
    obtain ⟨hl, hx⟩ := ht
    have loop : ∀ m i, i + m = t.f3.length → ∀ acc : Int, ∃ r, ∀ k, 70 * d + m + 1 ≤ k → tree_made.l0 k w h deep acc t.f3 (t.f3.length : Int) (i : Int) t.f0 t.f1 t.f2 t.f3 = some r := by
      intro m
      induction m with
      | zero =>
        intro i hi acc
        have hal : ∃ b, tree_along.f t.f0 w h = some b := by unfold tree_along.f; split <;> exact ⟨_, rfl⟩
        obtain ⟨b, hb⟩ := hal
        refine ⟨acc == b, fun k hk => ?_⟩
        obtain ⟨k, rfl⟩ : ∃ m, k = m + 1 := ⟨k - 1, by omega⟩
        simp only [tree_made.l0]
        rw [if_neg (by omega), hb]
        rfl
      | succ m ihm =>
        intro i hi acc
        obtain ⟨b, hb⟩ := tin_some (rd_T31 t.f3 (i : Int)).f2 1 80
        by_cases hkind : (rd_T31 t.f3 (i : Int)).f0 = t.f0
        · refine ⟨false, fun k hk => ?_⟩
          obtain ⟨k, rfl⟩ : ∃ m, k = m + 1 := ⟨k - 1, by omega⟩
          simp only [tree_made.l0]
          rw [if_pos (by omega), if_pos (by omega), if_pos (by omega), sized_f]
          simp only [Option.bind_some]
          rw [if_pos hkind]
        cases b with
        | false =>
          refine ⟨false, fun k hk => ?_⟩
          obtain ⟨k, rfl⟩ : ∃ m, k = m + 1 := ⟨k - 1, by omega⟩
          simp only [tree_made.l0]
          rw [if_pos (by omega), if_pos (by omega), if_pos (by omega), sized_f]
          simp only [Option.bind_some]
          rw [if_neg hkind, hb]
          rfl
        | true =>
          obtain ⟨r, hr⟩ := ih _ (hx _ (rd31_mem t.f3 i (by omega))) (if t.f0 = 1 then (rd_T31 t.f3 (i : Int)).f2 else w) (if t.f0 = 1 then h else (rd_T31 t.f3 (i : Int)).f2) (wrap64 (deep + 1))
          cases r with
          | false =>
            refine ⟨false, fun k hk => ?_⟩
            obtain ⟨k, rfl⟩ : ∃ m, k = m + 1 := ⟨k - 1, by omega⟩
            simp only [tree_made.l0]
            rw [if_pos (by omega), if_pos (by omega), if_pos (by omega), sized_f]
            simp only [Option.bind_some]
            rw [if_neg hkind, hb]
            simp only [Option.bind_some, if_true]
            rw [hr k (by omega)]
            rfl
          | true =>
            obtain ⟨r', hr'⟩ := ihm (i + 1) (by omega) (wrap64 (acc + (rd_T31 t.f3 (i : Int)).f2))
            refine ⟨r', fun k hk => ?_⟩
            obtain ⟨k, rfl⟩ : ∃ m, k = m + 1 := ⟨k - 1, by omega⟩
            simp only [tree_made.l0]
            rw [if_pos (by omega), if_pos (by omega), if_pos (by omega), sized_f]
            simp only [Option.bind_some]
            rw [if_neg hkind, hb]
            simp only [Option.bind_some, if_true]
            rw [hr k (by omega)]
            simp only [Option.bind_some, if_true]
            rw [show wrap64 ((i : Int) + 1) = ((i + 1 : Nat) : Int) from by rw [wrap_i (by omega) (by omega)]; omega]
            exact hr' k (by omega)
    have j0 : ∀ b, ∃ r, ∀ k, 70 * d + 62 ≤ k → tree_made.j0 k w h deep b t.f0 t.f1 t.f2 t.f3 = some r := by
      intro b
      cases b with
      | true =>
        refine ⟨false, fun k hk => ?_⟩
        obtain ⟨k, rfl⟩ : ∃ m, k = m + 1 := ⟨k - 1, by omega⟩
        simp only [tree_made.j0]
        rw [if_pos trivial]
      | false =>
        obtain ⟨r, hr⟩ := loop t.f3.length 0 (by omega) (wrap64 ((t.f3.length : Int) - 1))
        refine ⟨r, fun k hk => ?_⟩
        obtain ⟨k, rfl⟩ : ∃ m, k = m + 1 := ⟨k - 1, by omega⟩
        simp only [tree_made.j0]
        rw [if_neg (by decide)]
        exact hr k (by omega)
    by_cases h0 : t.f0 = 0
    · obtain ⟨b, hb⟩ := tin_some t.f1 1 999
      by_cases hl0 : (t.f3.length : Int) = 0
      · refine ⟨b, fun k hk => ?_⟩
        obtain ⟨k, rfl⟩ : ∃ m, k = m + 1 := ⟨k - 1, by omega⟩
        simp only [tree_made.f]
        rw [if_pos h0, if_pos hl0, hb]; rfl
      · refine ⟨false, fun k hk => ?_⟩
        obtain ⟨k, rfl⟩ : ∃ m, k = m + 1 := ⟨k - 1, by omega⟩
        simp only [tree_made.f]
        rw [if_pos h0, if_neg hl0]
    · obtain ⟨b, hb⟩ := tin_some t.f0 1 2
      have key : ∃ c, ∀ k, tree_made.f (k + 1) t.f0 t.f1 t.f2 t.f3 w h deep = tree_made.j0 k w h deep c t.f0 t.f1 t.f2 t.f3 := by
        cases b with
        | false => exact ⟨true, fun k => by simp only [tree_made.f]; rw [if_neg h0, hb]; rfl⟩
        | true =>
          by_cases h1 : t.f1 = 0
          · by_cases h2 : (t.f3.length : Int) < 2
            · exact ⟨true, fun k => by simp only [tree_made.f]; rw [if_neg h0, hb]; simp only [Option.bind_some, if_true]; rw [if_pos h1, if_pos h2]⟩
            · exact ⟨_, fun k => by simp only [tree_made.f]; rw [if_neg h0, hb]; simp only [Option.bind_some, if_true]; rw [if_pos h1, if_neg h2]⟩
          · exact ⟨true, fun k => by simp only [tree_made.f]; rw [if_neg h0, hb]; simp only [Option.bind_some, if_true]; rw [if_neg h1]⟩
      obtain ⟨c, hc⟩ := key
      obtain ⟨r, hr⟩ := j0 c
      refine ⟨r, fun k hk => ?_⟩
      obtain ⟨k, rfl⟩ : ∃ m, k = m + 1 := ⟨k - 1, by omega⟩
      rw [hc]
      exact hr k (by omega)
theorem panes_ends : ∀ d (t : S31), Few d t → ∃ ps, ∀ k, d ≤ k → panesK k t = some ps := by
  intro d
  induction d with
  | zero => intro t h; exact h.elim
  | succ d ih =>
    intro t ht
    obtain ⟨hl, hx⟩ := ht
    have all : ∀ l : List S31, (∀ x ∈ l, Few d x) → ∃ ps, ∀ k, d ≤ k → allK (panesK k) l = some ps := by
      intro l
      induction l with
      | nil => intro _; exact ⟨[], fun k _ => rfl⟩
      | cons x l ihl =>
        intro h
        obtain ⟨a, ha⟩ := ih x (h x List.mem_cons_self)
        obtain ⟨b, hb⟩ := ihl (fun y hy => h y (List.mem_cons_of_mem _ hy))
        exact ⟨a ++ b, fun k hk => by simp only [allK]; rw [ha k hk, Option.bind_some, hb k hk, Option.bind_some]⟩
    obtain ⟨ps, hps⟩ := all t.f3 hx
    by_cases h0 : t.f0 = 0
    · refine ⟨[t.f1], fun k hk => ?_⟩
      obtain ⟨k, rfl⟩ : ∃ m, k = m + 1 := ⟨k - 1, by omega⟩
      simp only [panesK]
      rw [if_pos h0]
    · refine ⟨ps, fun k hk => ?_⟩
      obtain ⟨k, rfl⟩ : ∃ m, k = m + 1 := ⟨k - 1, by omega⟩
      simp only [panesK]
      rw [if_neg h0, if_pos (by omega)]
      exact hps k (by omega)
end Go.Proofs.Ytplngfammfdemaa
end
section
namespace Go.Proofs.Ytplngfammfdemaa
open Go.RowKit Go.Proofs.YtplngfammfdemaaW.PrintWords Go.Proofs.YtplngfammfdemaaW.PrintMore Q
set_option linter.unusedVariables false
set_option linter.unusedSimpArgs false
theorem tin_iff {a lo hi : Int} (h : tree_in.f a lo hi = some true) : lo ≤ a ∧ a ≤ hi := by
  unfold tree_in.f at h
  split at h
  · rename_i h1
    simp at h
    exact ⟨h1, h⟩
  · simp at h
theorem made_loop_inv (kind f1 f2 w h deep : Int) (kids : List S31) (h60 : kids.length ≤ 60) : ∀ k i (acc : Int), i ≤ kids.length → 0 ≤ acc → acc ≤ 60 + 80 * i → tree_made.l0 k w h deep acc kids (kids.length : Int) (i : Int) kind f1 f2 kids = some true →
    (∀ t ∈ kids.drop i, t.f0 ≠ kind ∧ 1 ≤ t.f2 ∧ t.f2 ≤ 80 ∧ ∃ k', tree_made.f k' t.f0 t.f1 t.f2 t.f3 (kw kind t w) (kh kind t h) (wrap64 (deep + 1)) = some true) ∧ acc + sumS (kids.drop i) = (if kind = 1 then w else h) := by
  intro k
  induction k with
  | zero => intro i acc _ _ _ H; simp [tree_made.l0] at H
  | succ k ih =>
    intro i acc hi ha hb H
    simp only [tree_made.l0] at H
    by_cases hlt : i < kids.length
    · rw [if_pos (by omega), if_pos (by omega), if_pos (by omega), sized_f] at H
      simp only [Option.bind_some] at H
      by_cases g1 : (rd_T31 kids (i : Int)).f0 = kind
      · rw [if_pos g1] at H; simp at H
      rw [if_neg g1] at H
      obtain ⟨b, hb1⟩ := tin_some (rd_T31 kids (i : Int)).f2 1 80
      rw [hb1] at H
      simp only [Option.bind_some] at H
      cases b with
      | false => simp at H
      | true =>
        obtain ⟨s1, s2⟩ := tin_iff hb1
        rw [if_pos rfl] at H
        cases hm : tree_made.f k (rd_T31 kids (i : Int)).f0 (rd_T31 kids (i : Int)).f1 (rd_T31 kids (i : Int)).f2 (rd_T31 kids (i : Int)).f3 (if kind = 1 then (rd_T31 kids (i : Int)).f2 else w) (if kind = 1 then h else (rd_T31 kids (i : Int)).f2) (wrap64 (deep + 1)) with
        | none => rw [hm] at H; simp at H
        | some c =>
          rw [hm] at H
          simp only [Option.bind_some] at H
          cases c with
          | false => simp at H
          | true =>
            rw [if_pos rfl, wrap_i (i := acc + _) (by omega) (by omega), wrap_i (i := (i : Int) + 1) (by omega) (by omega), show ((i : Int) + 1) = ((i + 1 : Nat) : Int) by omega] at H
            obtain ⟨q1, q2⟩ := ih (i + 1) _ (by omega) (by omega) (by omega) H
            rw [rd31_drop kids i hlt]
            refine ⟨?_, ?_⟩
            · intro t ht
              rcases List.mem_cons.1 ht with rfl | ht
              · exact ⟨g1, s1, s2, k, hm⟩
              · exact q1 t ht
            · rw [sumS_cons]; omega
    · rw [if_neg (by omega)] at H
      have hal : tree_along.f kind w h = some (if kind = 1 then w else h) := by unfold tree_along.f; split <;> rfl
      rw [hal, Option.bind_some] at H
      rw [List.drop_eq_nil_of_le (by omega)]
      refine ⟨fun t ht => (by simp at ht), ?_⟩
      simp at H
      simp [sumS]
      exact H
theorem made_inv {k : Nat} {t : S31} {w h deep : Int} (h60 : t.f3.length ≤ 60) (H : tree_made.f k t.f0 t.f1 t.f2 t.f3 w h deep = some true) :
    (t.f0 = 0 ∧ t.f3 = []) ∨ ((t.f0 = 1 ∨ t.f0 = 2) ∧ 2 ≤ t.f3.length ∧ (∀ x ∈ t.f3, x.f0 ≠ t.f0 ∧ 1 ≤ x.f2 ∧ x.f2 ≤ 80 ∧ ∃ k', tree_made.f k' x.f0 x.f1 x.f2 x.f3 (kw t.f0 x w) (kh t.f0 x h) (wrap64 (deep + 1)) = some true) ∧ sumS t.f3 + t.f3.length - 1 = (if t.f0 = 1 then w else h)) := by
  cases k with
  | zero => simp [tree_made.f] at H
  | succ k =>
    simp only [tree_made.f] at H
    by_cases h0 : t.f0 = 0
    · rw [if_pos h0] at H
      by_cases hl : (t.f3.length : Int) = 0
      · exact .inl ⟨h0, List.length_eq_zero_iff.1 (by omega)⟩
      · rw [if_neg hl] at H; simp at H
    · rw [if_neg h0] at H
      obtain ⟨b, hb⟩ := tin_some t.f0 1 2
      have jt : tree_made.j0 k w h deep true t.f0 t.f1 t.f2 t.f3 ≠ some true := by
        cases k with
        | zero => simp [tree_made.j0]
        | succ k => simp [tree_made.j0]
      rw [hb] at H
      simp only [Option.bind_some] at H
      cases b with
      | false => rw [if_neg (by decide)] at H; exact absurd H jt
      | true =>
        have hkind := tin_iff hb
        rw [if_pos rfl] at H
        by_cases h1 : t.f1 = 0
        · rw [if_pos h1] at H
          by_cases h2 : (t.f3.length : Int) < 2
          · rw [if_pos h2] at H; exact absurd H jt
          · rw [if_neg h2] at H
            cases hd : decide (deep > 8) with
            | true => rw [hd] at H; exact absurd H jt
            | false =>
              rw [hd] at H
              cases k with
              | zero => simp [tree_made.j0] at H
              | succ k =>
                simp only [tree_made.j0] at H
                rw [if_neg (by decide), wrap_i (by omega) (by omega)] at H
                obtain ⟨q1, q2⟩ := made_loop_inv t.f0 t.f1 t.f2 w h deep t.f3 h60 k 0 _ (by omega) (by omega) (by omega) H
                rw [List.drop_zero] at q1 q2
                exact .inr ⟨by omega, by omega, q1, by omega⟩
        · rw [if_neg h1] at H; exact absurd H jt
end Go.Proofs.Ytplngfammfdemaa
end
section
namespace Go.Proofs.Ytplngfammfdemaa
open Go.RowKit Go.Proofs.YtplngfammfdemaaW.PrintWords Go.Proofs.YtplngfammfdemaaW.PrintMore Q
set_option linter.unusedVariables false
set_option linter.unusedSimpArgs false
theorem allK_flat (F : S31 → List Int) (f : S31 → Option (List Int)) : ∀ l : List S31, (∀ t ∈ l, f t = some (F t)) → allK f l = some (l.flatMap F) := by
  intro l
  induction l with
  | nil => intro _; rfl
  | cons t l ih =>
    intro h
    simp only [allK]
    rw [h t List.mem_cons_self, Option.bind_some, ih (fun x hx => h x (List.mem_cons_of_mem _ hx)), Option.bind_some, List.flatMap_cons]
end Go.Proofs.Ytplngfammfdemaa
end
section
namespace Go.Proofs.Ytplngfammfdemaa
open Q
set_option linter.unusedVariables false
set_option linter.unusedSimpArgs false
/-- A kid's columns and rows, of its size and its tree's. -/
def kwd (kind s w : Int) : Int := if kind = 1 then s else w
def khd (kind s h : Int) : Int := if kind = 1 then h else s
def alo (kind w h : Int) : Int := if kind = 1 then w else h
theorem eta31 (x : S31) : (⟨x.f0, x.f1, x.f2, x.f3⟩ : S31) = x := by cases x; rfl
def sumF (l : List S31) : Int := (l.map (·.f2)).sum
theorem sumF_nil : sumF [] = 0 := rfl
theorem sumF_cons (x : S31) (l : List S31) : sumF (x :: l) = x.f2 + sumF l := by simp [sumF]
theorem sumF_append (l m : List S31) : sumF (l ++ m) = sumF l + sumF m := by simp [sumF, List.sum_append]
/-- A tree that is made right, of a size; d levels at most. -/
def Mk : Nat → S31 → Int → Int → Prop
  | 0, _, _, _ => False
  | d + 1, t, w, h => (t.f0 = 0 ∧ t.f3 = [] ∧ 1 ≤ t.f1 ∧ t.f1 ≤ 999) ∨
    ((t.f0 = 1 ∨ t.f0 = 2) ∧ t.f1 = 0 ∧ 2 ≤ t.f3.length ∧ (∀ x ∈ t.f3, x.f0 ≠ t.f0 ∧ 1 ≤ x.f2 ∧ x.f2 ≤ 80 ∧ Mk d x (kwd t.f0 x.f2 w) (khd t.f0 x.f2 h)) ∧ sumF t.f3 + t.f3.length - 1 = alo t.f0 w h)
theorem Mk.leaf {d : Nat} {t : S31} {w h : Int} (h0 : t.f0 = 0) (h3 : t.f3 = []) (h1 : 1 ≤ t.f1) (h9 : t.f1 ≤ 999) : Mk (d + 1) t w h := .inl ⟨h0, h3, h1, h9⟩
theorem Mk.up {d : Nat} : ∀ {t : S31} {w h : Int}, Mk d t w h → Mk (d + 1) t w h := by
  induction d with
  | zero => intro t w h hm; exact hm.elim
  | succ d ih =>
    intro t w h hm
    rcases hm with hm | ⟨h0, h1, h2, hk, hs⟩
    · exact .inl hm
    · exact .inr ⟨h0, h1, h2, fun x hx => ⟨(hk x hx).1, (hk x hx).2.1, (hk x hx).2.2.1, ih (hk x hx).2.2.2⟩, hs⟩
theorem Mk.mono {d e : Nat} {t : S31} {w h : Int} (hm : Mk d t w h) (he : d ≤ e) : Mk e t w h := by
  induction he with
  | refl => exact hm
  | step _ ih => exact ih.up
theorem Mk.kids {d : Nat} {t : S31} {w h : Int} (hm : Mk (d + 1) t w h) (h0 : t.f0 ≠ 0) : (t.f0 = 1 ∨ t.f0 = 2) ∧ t.f1 = 0 ∧ 2 ≤ t.f3.length ∧ (∀ x ∈ t.f3, x.f0 ≠ t.f0 ∧ 1 ≤ x.f2 ∧ x.f2 ≤ 80 ∧ Mk d x (kwd t.f0 x.f2 w) (khd t.f0 x.f2 h)) ∧ sumF t.f3 + t.f3.length - 1 = alo t.f0 w h := by
  rcases hm with hm | hm
  · exact absurd hm.1 h0
  · exact hm
/-- The panes, in order. -/
def psR : Nat → S31 → List Int
  | 0, _ => []
  | k + 1, t => if t.f0 = 0 then [t.f1] else t.f3.flatMap (psR k)
/-- The least size along a way. -/
def leastR : Nat → S31 → Int → Int
  | 0, _, _ => 1
  | k + 1, t, way => if t.f0 = 0 then 1 else if t.f0 = way then (t.f3.map fun x => leastR k x way).sum + t.f3.length - 1 else (t.f3.map fun x => leastR k x way).foldl max 0
theorem foldl_max (l : List Int) : ∀ a, a ≤ l.foldl max a ∧ ∀ x ∈ l, x ≤ l.foldl max a := by
  induction l with
  | nil => intro a; exact ⟨Int.le_refl _, fun x hx => by cases hx⟩
  | cons y l ih =>
    intro a
    obtain ⟨h1, h2⟩ := ih (max a y)
    simp only [List.foldl_cons]
    refine ⟨by omega, fun x hx => ?_⟩
    rcases List.mem_cons.1 hx with rfl | hx
    · omega
    · exact h2 x hx
theorem foldl_max_le (l : List Int) (b : Int) (h : ∀ x ∈ l, x ≤ b) : ∀ a, a ≤ b → l.foldl max a ≤ b := by
  induction l with
  | nil => intro a ha; exact ha
  | cons y l ih =>
    intro a ha
    simp only [List.foldl_cons]
    exact ih (fun x hx => h x (List.mem_cons_of_mem _ hx)) _ (by have := h y (List.mem_cons_self ..); omega)
theorem sum_le (l : List S31) (f : S31 → Int) (h : ∀ x ∈ l, f x ≤ x.f2) : (l.map f).sum ≤ sumF l := by
  induction l with
  | nil => simp [sumF]
  | cons y l ih =>
    rw [sumF_cons, List.map_cons, List.sum_cons]
    have := h y (List.mem_cons_self ..)
    have := ih (fun x hx => h x (List.mem_cons_of_mem _ hx))
    omega
theorem sum_pos (l : List S31) (f : S31 → Int) (h : ∀ x ∈ l, 1 ≤ f x) : (l.length : Int) ≤ (l.map f).sum := by
  induction l with
  | nil => simp
  | cons y l ih =>
    rw [List.map_cons, List.sum_cons, List.length_cons]
    have := h y (List.mem_cons_self ..)
    have := ih (fun x hx => h x (List.mem_cons_of_mem _ hx))
    omega
theorem mem_len {α : Type} {l : List α} (h : 2 ≤ l.length) : ∃ x, x ∈ l := by
  cases l with
  | nil => simp at h
  | cons a l => exact ⟨a, List.mem_cons_self ..⟩
theorem least_pos : ∀ (d k : Nat) (t : S31) (w h way : Int), Mk d t w h → 1 ≤ leastR k t way := by
  intro d
  induction d with
  | zero => intro k t w h way hm; exact hm.elim
  | succ d ih =>
    intro k t w h way hm
    cases k with
    | zero => exact Int.le_refl _
    | succ k =>
      unfold leastR
      split
      · exact Int.le_refl _
      · rename_i h0
        obtain ⟨_, _, h2, hk, _⟩ := hm.kids h0
        have hp : ∀ x ∈ t.f3, 1 ≤ leastR k x way := fun x hx => ih k x _ _ way (hk x hx).2.2.2
        split
        · have := sum_pos t.f3 (fun x => leastR k x way) hp
          omega
        · obtain ⟨x, hx⟩ := mem_len h2
          have := (foldl_max (t.f3.map fun x => leastR k x way) 0).2 _ (List.mem_map_of_mem hx)
          have := hp x hx
          omega
theorem least_le : ∀ (d k : Nat) (t : S31) (w h : Int), Mk d t w h → 1 ≤ w → 1 ≤ h → leastR k t 1 ≤ w ∧ leastR k t 2 ≤ h := by
  intro d
  induction d with
  | zero => intro k t w h hm; exact hm.elim
  | succ d ih =>
    intro k t w h hm hw hh
    cases k with
    | zero => exact ⟨hw, hh⟩
    | succ k =>
      unfold leastR
      by_cases h0 : t.f0 = 0
      · rw [if_pos h0, if_pos h0]; exact ⟨hw, hh⟩
      · obtain ⟨hkd, _, h2, hk, hs⟩ := hm.kids h0
        rw [if_neg h0, if_neg h0]
        rcases hkd with hkd | hkd
        · have hk' : ∀ x ∈ t.f3, leastR k x 1 ≤ x.f2 ∧ leastR k x 2 ≤ h := fun x hx => by
            have h4 := (hk x hx).2.2.2
            have h5 := (hk x hx).2.1
            unfold kwd khd at h4
            rw [if_pos hkd, if_pos hkd] at h4
            exact ih k x _ _ h4 h5 hh
          rw [if_pos hkd, if_neg (by omega)]
          unfold alo at hs
          rw [if_pos hkd] at hs
          have := sum_le t.f3 (fun x => leastR k x 1) (fun x hx => (hk' x hx).1)
          refine ⟨by omega, foldl_max_le _ _ (fun y hy => ?_) 0 (by omega)⟩
          obtain ⟨x, hx, rfl⟩ := List.mem_map.1 hy
          exact (hk' x hx).2
        · have hk' : ∀ x ∈ t.f3, leastR k x 1 ≤ w ∧ leastR k x 2 ≤ x.f2 := fun x hx => by
            have h4 := (hk x hx).2.2.2
            have h5 := (hk x hx).2.1
            unfold kwd khd at h4
            rw [if_neg (by omega), if_neg (by omega)] at h4
            exact ih k x _ _ h4 hw h5
          rw [if_neg (by omega), if_pos hkd]
          unfold alo at hs
          rw [if_neg (by omega)] at hs
          have := sum_le t.f3 (fun x => leastR k x 2) (fun x hx => (hk' x hx).2)
          refine ⟨foldl_max_le _ _ (fun y hy => ?_) 0 (by omega), by omega⟩
          obtain ⟨x, hx, rfl⟩ := List.mem_map.1 hy
          exact (hk' x hx).1
def withSize (x : S31) (s : Int) : S31 := ⟨x.f0, x.f1, s, x.f3⟩
/-- Sizes shared out, from the last kid to the first; what is left over. -/
def fitS (ls : S31 → Int) : List S31 → Int → List S31 × Int
  | [], m => ([], m)
  | x :: l, m => (withSize x (x.f2 + max (fitS ls l m).2 (ls x - x.f2)) :: (fitS ls l m).1, (fitS ls l m).2 - max (fitS ls l m).2 (ls x - x.f2))
def fitR : Nat → S31 → Int → Int → S31
  | 0, t, _, _ => t
  | k + 1, t, w, h => if t.f0 = 0 then t else
    ⟨t.f0, t.f1, t.f2, (fitS (fun x => leastR k x t.f0) t.f3 (alo t.f0 w h - t.f3.length + 1 - sumF t.f3)).1.map fun x => fitR k x (kwd t.f0 x.f2 w) (khd t.f0 x.f2 h)⟩
theorem fitS_zero (ls : S31 → Int) (l : List S31) (h : ∀ x ∈ l, ls x ≤ x.f2) : fitS ls l 0 = (l, 0) := by
  induction l with
  | nil => rfl
  | cons x l ih =>
    have hx := h x (List.mem_cons_self ..)
    unfold fitS
    rw [ih (fun y hy => h y (List.mem_cons_of_mem _ hy))]
    have : max (0 : Int) (ls x - x.f2) = 0 := by omega
    simp only [this]
    rw [Int.add_zero, Int.sub_zero]
    unfold withSize
    rw [eta31]
theorem map_id_of {α : Type} (l : List α) (f : α → α) (h : ∀ x ∈ l, f x = x) : l.map f = l := by
  induction l with
  | nil => rfl
  | cons x l ih => rw [List.map_cons, h x (List.mem_cons_self ..), ih (fun y hy => h y (List.mem_cons_of_mem _ hy))]
theorem fit_id : ∀ (d k : Nat) (t : S31) (w h : Int), Mk d t w h → 1 ≤ w → 1 ≤ h → fitR k t w h = t := by
  intro d
  induction d with
  | zero => intro k t w h hm; exact hm.elim
  | succ d ih =>
    intro k t w h hm hw hh
    cases k with
    | zero => rfl
    | succ k =>
      unfold fitR
      by_cases h0 : t.f0 = 0
      · rw [if_pos h0]
      · rw [if_neg h0]
        obtain ⟨hkd, _, h2, hk, hs⟩ := hm.kids h0
        have hz : alo t.f0 w h - t.f3.length + 1 - sumF t.f3 = 0 := by omega
        have hpos : ∀ x ∈ t.f3, 1 ≤ kwd t.f0 x.f2 w ∧ 1 ≤ khd t.f0 x.f2 h := fun x hx => by
          have := (hk x hx).2.1
          unfold kwd khd
          split <;> omega
        have hls : ∀ x ∈ t.f3, leastR k x t.f0 ≤ x.f2 := fun x hx => by
          have h4 := least_le d k x _ _ (hk x hx).2.2.2 (hpos x hx).1 (hpos x hx).2
          rcases hkd with hkd | hkd
          · rw [hkd] at h4 ⊢; unfold kwd at h4; rw [if_pos rfl] at h4; exact h4.1
          · rw [hkd] at h4 ⊢; unfold khd at h4; rw [if_neg (by omega)] at h4; exact h4.2
        rw [hz, fitS_zero _ _ hls, map_id_of _ _ (fun x hx => ih k x _ _ (hk x hx).2.2.2 (hpos x hx).1 (hpos x hx).2), eta31]
end Go.Proofs.Ytplngfammfdemaa
end
section
namespace Go.Proofs.Ytplngfammfdemaa
open Q
set_option linter.unusedVariables false
set_option linter.unusedSimpArgs false
theorem mk_size {d : Nat} {x : S31} {w h : Int} (s : Int) (hm : Mk d x w h) : Mk d (withSize x s) w h := by
  cases d with
  | zero => exact hm
  | succ d => exact hm
theorem least_size (k : Nat) (x : S31) (s way : Int) : leastR k (withSize x s) way = leastR k x way := by
  cases k with
  | zero => rfl
  | succ k => rfl
theorem ps_size (k : Nat) (x : S31) (s : Int) : psR k (withSize x s) = psR k x := by
  cases k with
  | zero => rfl
  | succ k => rfl
/-- What fitting makes of a row of kids: the same, of other sizes. -/
def Resized (ls : S31 → Int) : List S31 → List S31 → Prop
  | [], [] => True
  | x :: l, y :: m => (∃ s, y = withSize x s ∧ ls x ≤ s) ∧ Resized ls l m
  | _, _ => False
theorem fitS_resized (ls : S31 → Int) : ∀ (l : List S31) (m : Int), Resized ls l (fitS ls l m).1 := by
  intro l
  induction l with
  | nil => intro m; trivial
  | cons x l ih => intro m; exact ⟨⟨_, rfl, by omega⟩, ih m⟩
theorem fitS_sum (ls : S31 → Int) : ∀ (l : List S31) (m : Int), sumF (fitS ls l m).1 + (fitS ls l m).2 = sumF l + m := by
  intro l
  induction l with
  | nil => intro m; rfl
  | cons x l ih =>
    intro m
    have h := ih m
    unfold fitS
    simp only [sumF_cons, withSize]
    omega
def spareS (ls : S31 → Int) (l : List S31) : Int := (l.map fun x => x.f2 - ls x).sum
theorem fitS_low (ls : S31 → Int) : ∀ (l : List S31) (m c : Int), (∀ x ∈ l, ls x ≤ x.f2) → 0 ≤ c → 0 ≤ m + spareS ls l + c → 0 ≤ (fitS ls l m).2 + c := by
  intro l
  induction l with
  | nil => intro m c _ _ h; unfold spareS at h; simp at h; exact h
  | cons x l ih =>
    intro m c hl hc h
    have hx := hl x (List.mem_cons_self ..)
    have hs : spareS ls (x :: l) = (x.f2 - ls x) + spareS ls l := by unfold spareS; rw [List.map_cons, List.sum_cons]
    have h1 := ih m (x.f2 - ls x + c) (fun y hy => hl y (List.mem_cons_of_mem _ hy)) (by omega) (by omega)
    unfold fitS
    simp only
    omega
theorem fitS_high (ls : S31 → Int) (l : List S31) (m : Int) (hl : l ≠ []) : (fitS ls l m).2 ≤ 0 := by
  cases l with
  | nil => exact absurd rfl hl
  | cons x l => unfold fitS; simp only; omega
theorem spare_sum (ls : S31 → Int) (l : List S31) : spareS ls l = sumF l - (l.map ls).sum := by
  unfold spareS
  induction l with
  | nil => rfl
  | cons x l ih => rw [List.map_cons, List.map_cons, List.sum_cons, List.sum_cons, sumF_cons, ih]; omega
theorem resized_len {ls : S31 → Int} : ∀ {l m : List S31}, Resized ls l m → m.length = l.length := by
  intro l
  induction l with
  | nil => intro m h; cases m with | nil => rfl | cons _ _ => exact h.elim
  | cons x l ih => intro m h; cases m with | nil => exact h.elim | cons y m => simp only [List.length_cons]; rw [ih h.2]
theorem resized_mem {ls : S31 → Int} : ∀ {l m : List S31}, Resized ls l m → ∀ y ∈ m, ∃ x ∈ l, ∃ s, y = withSize x s ∧ ls x ≤ s := by
  intro l
  induction l with
  | nil => intro m h y hy; cases m with | nil => cases hy | cons _ _ => exact h.elim
  | cons x l ih =>
    intro m h y hy
    cases m with
    | nil => cases hy
    | cons z m =>
      rcases List.mem_cons.1 hy with rfl | hy
      · obtain ⟨s, hs, hl⟩ := h.1
        exact ⟨x, List.mem_cons_self .., s, hs, hl⟩
      · obtain ⟨x', hx', r⟩ := ih h.2 y hy
        exact ⟨x', List.mem_cons_of_mem _ hx', r⟩
theorem resized_flat {ls : S31 → Int} {β : Type} (f g : S31 → List β) (hfg : ∀ x s, g (withSize x s) = f x) : ∀ {l m : List S31}, Resized ls l m → m.flatMap g = l.flatMap f := by
  intro l
  induction l with
  | nil => intro m h; cases m with | nil => rfl | cons _ _ => exact h.elim
  | cons x l ih =>
    intro m h
    cases m with
    | nil => exact h.elim
    | cons z m =>
      obtain ⟨s, hs, hl⟩ := h.1
      rw [List.flatMap_cons, List.flatMap_cons, ih h.2, hs, hfg]
theorem le_sumF {l : List S31} (h : ∀ x ∈ l, 0 ≤ x.f2) : ∀ x ∈ l, x.f2 ≤ sumF l := by
  induction l with
  | nil => intro x hx; cases hx
  | cons y l ih =>
    have hn : 0 ≤ sumF l := by
      clear ih
      induction l with
      | nil => exact Int.le_refl _
      | cons z l ih2 =>
        rw [sumF_cons]
        have := h z (List.mem_cons_of_mem _ (List.mem_cons_self ..))
        have := ih2 (fun x hx => by rcases List.mem_cons.1 hx with rfl | hx; exact h x (List.mem_cons_self ..); exact h x (List.mem_cons_of_mem _ (List.mem_cons_of_mem _ hx)))
        omega
    intro x hx
    rw [sumF_cons]
    have hy := h y (List.mem_cons_self ..)
    rcases List.mem_cons.1 hx with rfl | hx
    · omega
    · have := ih (fun x hx => h x (List.mem_cons_of_mem _ hx)) x hx; omega
theorem sumF_map (l : List S31) (f : S31 → S31) (h : ∀ x ∈ l, (f x).f2 = x.f2) : sumF (l.map f) = sumF l := by
  induction l with
  | nil => rfl
  | cons x l ih => rw [List.map_cons, sumF_cons, sumF_cons, h x (List.mem_cons_self ..), ih (fun y hy => h y (List.mem_cons_of_mem _ hy))]
theorem fit_head (k : Nat) (t : S31) (w h : Int) : (fitR k t w h).f0 = t.f0 ∧ (fitR k t w h).f1 = t.f1 ∧ (fitR k t w h).f2 = t.f2 := by
  cases k with
  | zero => exact ⟨rfl, rfl, rfl⟩
  | succ k => unfold fitR; split <;> exact ⟨rfl, rfl, rfl⟩
theorem flat_map {β : Type} (l : List S31) (f : S31 → S31) (g g' : S31 → List β) (h : ∀ x ∈ l, g (f x) = g' x) : (l.map f).flatMap g = l.flatMap g' := by
  induction l with
  | nil => rfl
  | cons x l ih => rw [List.map_cons, List.flatMap_cons, List.flatMap_cons, h x (List.mem_cons_self ..), ih (fun y hy => h y (List.mem_cons_of_mem _ hy))]
theorem fit_mk : ∀ (d k : Nat) (t : S31) (w h w2 h2 : Int), Mk d t w h → 1 ≤ w → 1 ≤ h → 1 ≤ w2 → w2 ≤ 80 → 1 ≤ h2 → h2 ≤ 80 → d ≤ k → leastR k t 1 ≤ w2 → leastR k t 2 ≤ h2 →
    Mk d (fitR k t w2 h2) w2 h2 ∧ ∀ e, psR e (fitR k t w2 h2) = psR e t := by
  intro d
  induction d with
  | zero => intro k t w h w2 h2 hm; exact hm.elim
  | succ d ih =>
    intro k t w h w2 h2 hm hw hh hw2 hw8 hh2 hh8 hdk hl1 hl2
    obtain ⟨k, rfl⟩ : ∃ k', k = k' + 1 := ⟨k - 1, by omega⟩
    by_cases h0 : t.f0 = 0
    · unfold fitR
      rw [if_pos h0]
      rcases hm with hm | hm
      · exact ⟨.inl hm, fun _ => rfl⟩
      · omega
    · obtain ⟨hkd, hp0, h2', hk, hs⟩ := hm.kids h0
      have hpos : ∀ x ∈ t.f3, 1 ≤ kwd t.f0 x.f2 w ∧ 1 ≤ khd t.f0 x.f2 h := fun x hx => by
        have := (hk x hx).2.1
        unfold kwd khd
        split <;> omega
      have hls : ∀ x ∈ t.f3, leastR k x t.f0 ≤ x.f2 := fun x hx => by
        have h4 := least_le d k x _ _ (hk x hx).2.2.2 (hpos x hx).1 (hpos x hx).2
        rcases hkd with hkd | hkd
        · rw [hkd] at h4 ⊢; unfold kwd at h4; rw [if_pos rfl] at h4; exact h4.1
        · rw [hkd] at h4 ⊢; unfold khd at h4; rw [if_neg (by omega)] at h4; exact h4.2
      have hne : t.f3 ≠ [] := fun e => by rw [e] at h2'; simp at h2'
      obtain ⟨more, hmore⟩ : ∃ m, alo t.f0 w2 h2 - t.f3.length + 1 - sumF t.f3 = m := ⟨_, rfl⟩
      have halo : (t.f3.map fun x => leastR k x t.f0).sum + t.f3.length - 1 ≤ alo t.f0 w2 h2 := by
        unfold leastR at hl1 hl2
        rw [if_neg h0] at hl1 hl2
        unfold alo
        rcases hkd with hkd | hkd
        · rw [if_pos hkd] at hl1 ⊢; rw [hkd]; exact hl1
        · rw [if_pos hkd] at hl2; rw [if_neg (by omega), hkd]; exact hl2
      have hsp := spare_sum (fun x => leastR k x t.f0) t.f3
      have hlow := fitS_low (fun x => leastR k x t.f0) t.f3 more 0 hls (Int.le_refl _) (by omega)
      have hhigh := fitS_high (fun x => leastR k x t.f0) t.f3 more hne
      have hsum := fitS_sum (fun x => leastR k x t.f0) t.f3 more
      have hrs := fitS_resized (fun x => leastR k x t.f0) t.f3 more
      have hlen := resized_len hrs
      have hmem := resized_mem hrs
      have hps := fun e => resized_flat (psR e) (psR e) (fun x s => ps_size e x s) hrs
      unfold fitR
      rw [if_neg h0, hmore]
      generalize (fitS (fun x => leastR k x t.f0) t.f3 more).1 = l' at hsum hrs hlen hmem hps ⊢
      have hs1 : ∀ y ∈ l', 1 ≤ y.f2 := fun y hy => by
        obtain ⟨x, hx, s, rfl, hle⟩ := hmem y hy
        have := least_pos d k x _ _ t.f0 (hk x hx).2.2.2
        show 1 ≤ s
        omega
      have hs2 := le_sumF (fun y hy => by have := hs1 y hy; omega : ∀ y ∈ l', 0 ≤ y.f2)
      have ha8 : alo t.f0 w2 h2 ≤ 80 := by unfold alo; split <;> omega
      have hs8 : ∀ y ∈ l', y.f2 ≤ 80 := fun y hy => by have := hs2 y hy; omega
      have hkid : ∀ y ∈ l', y.f0 ≠ t.f0 ∧ Mk d (fitR k y (kwd t.f0 y.f2 w2) (khd t.f0 y.f2 h2)) (kwd t.f0 y.f2 w2) (khd t.f0 y.f2 h2) ∧ ∀ e, psR e (fitR k y (kwd t.f0 y.f2 w2) (khd t.f0 y.f2 h2)) = psR e y := fun y hy => by
        have hy1 := hs1 y hy
        have hy8 := hs8 y hy
        obtain ⟨x, hx, s, rfl, hle⟩ := hmem y hy
        have hs1' : 1 ≤ s := hy1
        have hs8' : s ≤ 80 := hy8
        refine ⟨(hk x hx).1, ?_⟩
        have hw' : 1 ≤ kwd t.f0 s w2 ∧ kwd t.f0 s w2 ≤ 80 ∧ 1 ≤ khd t.f0 s h2 ∧ khd t.f0 s h2 ≤ 80 := by unfold kwd khd; split <;> omega
        have hlx : leastR k x 1 ≤ kwd t.f0 s w2 ∧ leastR k x 2 ≤ khd t.f0 s h2 := by
          unfold leastR at hl1 hl2
          rw [if_neg h0] at hl1 hl2
          unfold kwd khd
          rcases hkd with hkd | hkd
          · rw [if_pos hkd, if_pos hkd]
            rw [if_neg (by omega)] at hl2
            rw [hkd] at hle
            have := (foldl_max (t.f3.map fun x => leastR k x 2) 0).2 _ (List.mem_map_of_mem hx)
            exact ⟨hle, by omega⟩
          · rw [if_neg (by omega), if_neg (by omega)]
            rw [if_neg (by omega)] at hl1
            rw [hkd] at hle
            have := (foldl_max (t.f3.map fun x => leastR k x 1) 0).2 _ (List.mem_map_of_mem hx)
            exact ⟨by omega, hle⟩
        exact ih k (withSize x s) _ _ _ _ (mk_size s (hk x hx).2.2.2) (hpos x hx).1 (hpos x hx).2 hw'.1 hw'.2.1 hw'.2.2.1 hw'.2.2.2 (by omega) (by rw [least_size]; exact hlx.1) (by rw [least_size]; exact hlx.2)
      have hf2 : ∀ y ∈ l', (fitR k y (kwd t.f0 y.f2 w2) (khd t.f0 y.f2 h2)).f2 = y.f2 := fun y hy => (fit_head k y _ _).2.2
      refine ⟨.inr ⟨hkd, hp0, by rw [List.length_map, hlen]; exact h2', fun z hz => ?_, ?_⟩, fun e => ?_⟩
      · obtain ⟨y, hy, rfl⟩ := List.mem_map.1 hz
        have hh := hkid y hy
        have hf := fit_head k y (kwd t.f0 y.f2 w2) (khd t.f0 y.f2 h2)
        show (fitR k y (kwd t.f0 y.f2 w2) (khd t.f0 y.f2 h2)).f0 ≠ t.f0 ∧ _
        rw [hf.1, hf.2.2]
        exact ⟨hh.1, hs1 y hy, hs8 y hy, hh.2.1⟩
      · show sumF (l'.map _) + ((l'.map _).length : Int) - 1 = alo t.f0 w2 h2
        rw [List.length_map, sumF_map _ _ hf2, hlen]
        omega
      · cases e with
        | zero => rfl
        | succ e =>
          unfold psR
          rw [if_neg h0, if_neg h0]
          show (l'.map _).flatMap (psR e) = _
          rw [flat_map l' _ (psR e) (psR e) (fun y hy => (hkid y hy).2.2 e), hps e]
end Go.Proofs.Ytplngfammfdemaa
end
section
namespace Go.Proofs.Ytplngfammfdemaa
open Q
set_option linter.unusedVariables false
set_option linter.unusedSimpArgs false
theorem flat_congr {β : Type} (l : List S31) (f g : S31 → List β) (h : ∀ x ∈ l, f x = g x) : l.flatMap f = l.flatMap g := by
  induction l with
  | nil => rfl
  | cons x l ih => rw [List.flatMap_cons, List.flatMap_cons, h x (List.mem_cons_self ..), ih (fun y hy => h y (List.mem_cons_of_mem _ hy))]
theorem ps_fuel : ∀ (d e : Nat) (t : S31) (w h : Int), Mk d t w h → d ≤ e → psR e t = psR d t := by
  intro d
  induction d with
  | zero => intro e t w h hm; exact hm.elim
  | succ d ih =>
    intro e t w h hm he
    obtain ⟨e, rfl⟩ : ∃ e', e = e' + 1 := ⟨e - 1, by omega⟩
    unfold psR
    by_cases h0 : t.f0 = 0
    · rw [if_pos h0, if_pos h0]
    · rw [if_neg h0, if_neg h0]
      obtain ⟨_, _, _, hk, _⟩ := hm.kids h0
      exact flat_congr _ _ _ (fun x hx => ih e x _ _ (hk x hx).2.2.2 (by omega))
theorem ps_range : ∀ (d : Nat) (t : S31) (w h : Int), Mk d t w h → ∀ p ∈ psR d t, 1 ≤ p ∧ p ≤ 999 := by
  intro d
  induction d with
  | zero => intro t w h hm; exact hm.elim
  | succ d ih =>
    intro t w h hm p hp
    unfold psR at hp
    by_cases h0 : t.f0 = 0
    · rw [if_pos h0] at hp
      rcases hm with hm | hm
      · rw [List.mem_singleton.1 hp]; exact hm.2.2
      · omega
    · rw [if_neg h0] at hp
      obtain ⟨_, _, _, hk, _⟩ := hm.kids h0
      obtain ⟨x, hx, hpx⟩ := List.mem_flatMap.1 hp
      exact ih x _ _ (hk x hx).2.2.2 p hpx
theorem ps_pos : ∀ (d : Nat) (t : S31) (w h : Int), Mk d t w h → 1 ≤ (psR d t).length := by
  intro d
  induction d with
  | zero => intro t w h hm; exact hm.elim
  | succ d ih =>
    intro t w h hm
    unfold psR
    by_cases h0 : t.f0 = 0
    · rw [if_pos h0]; simp
    · rw [if_neg h0]
      obtain ⟨_, _, h2, hk, _⟩ := hm.kids h0
      cases hl : t.f3 with
      | nil => rw [hl] at h2; simp at h2
      | cons x l =>
        have := ih x _ _ (hk x (by rw [hl]; exact List.mem_cons_self ..)).2.2.2
        rw [List.flatMap_cons, List.length_append]
        omega
/-- A kid has fewer panes than its tree. -/
theorem flat_less (l : List S31) (f : S31 → List Int) (h : ∀ x ∈ l, 1 ≤ (f x).length) (h2 : 2 ≤ l.length) : ∀ x ∈ l, (f x).length + 1 ≤ (l.flatMap f).length := by
  have hlen : ∀ m : List S31, (∀ x ∈ m, 1 ≤ (f x).length) → m.length ≤ (m.flatMap f).length := by
    intro m hm
    induction m with
    | nil => simp
    | cons y m ih =>
      rw [List.flatMap_cons, List.length_append, List.length_cons]
      have := hm y (List.mem_cons_self ..)
      have := ih (fun z hz => hm z (List.mem_cons_of_mem _ hz))
      omega
  intro x hx
  obtain ⟨a, b, rfl⟩ := List.append_of_mem hx
  rw [List.flatMap_append, List.flatMap_cons, List.length_append, List.length_append]
  have h1 := hlen a (fun z hz => h z (List.mem_append_left _ hz))
  have h3 := hlen b (fun z hz => h z (List.mem_append_right _ (List.mem_cons_of_mem _ hz)))
  rw [List.length_append, List.length_cons] at h2
  omega
/-- A tree has no more levels than panes. -/
theorem mk_few : ∀ (d : Nat) (t : S31) (w h : Int), Mk d t w h → Mk (psR d t).length t w h := by
  intro d
  induction d with
  | zero => intro t w h hm; exact hm.elim
  | succ d ih =>
    intro t w h hm
    have hp := ps_pos (d + 1) t w h hm
    obtain ⟨n, hn⟩ : ∃ n, (psR (d + 1) t).length = n + 1 := ⟨(psR (d + 1) t).length - 1, by omega⟩
    rw [hn]
    by_cases h0 : t.f0 = 0
    · rcases hm with hm | hm
      · exact .inl hm
      · omega
    · obtain ⟨a, b, h2, hk, s⟩ := hm.kids h0
      refine .inr ⟨a, b, h2, fun x hx => ⟨(hk x hx).1, (hk x hx).2.1, (hk x hx).2.2.1, ?_⟩, s⟩
      have hx1 := ih x _ _ (hk x hx).2.2.2
      refine hx1.mono ?_
      unfold psR at hn
      rw [if_neg h0] at hn
      have := flat_less t.f3 (psR d) (fun y hy => ps_pos d y _ _ (hk y hy).2.2.2) h2 x hx
      omega
def nameK (f : S31 → List Int → S31 × List Int) : List S31 → List Int → List S31 × List Int
  | [], l => ([], l)
  | x :: xs, l => ((f x l).1 :: (nameK f xs (f x l).2).1, (nameK f xs (f x l).2).2)
def namedR : Nat → S31 → List Int → S31 × List Int
  | 0, t, l => (t, l)
  | k + 1, t, l => if t.f0 = 0 then (⟨t.f0, l.headD 0, t.f2, t.f3⟩, l.drop 1) else (⟨t.f0, t.f1, t.f2, (nameK (namedR k) t.f3 l).1⟩, (nameK (namedR k) t.f3 l).2)
theorem named_head (k : Nat) (t : S31) (l : List Int) : (namedR k t l).1.f0 = t.f0 ∧ (namedR k t l).1.f2 = t.f2 ∧ (namedR k t l).1.f3.length = t.f3.length := by
  have hlen : ∀ (f : S31 → List Int → S31 × List Int) (xs : List S31) (l : List Int), (nameK f xs l).1.length = xs.length := by
    intro f xs
    induction xs with
    | nil => intro l; rfl
    | cons x xs ih => intro l; simp only [nameK, List.length_cons, ih]
  cases k with
  | zero => exact ⟨rfl, rfl, rfl⟩
  | succ k =>
    unfold namedR
    split
    · exact ⟨rfl, rfl, rfl⟩
    · exact ⟨rfl, rfl, hlen _ _ _⟩
theorem headD_take (l : List Int) (h : 1 ≤ l.length) : [l.headD 0] = l.take 1 := by
  cases l with
  | nil => simp at h
  | cons a l => rfl
theorem headD_mem (l : List Int) (h : 1 ≤ l.length) : l.headD 0 ∈ l := by
  cases l with
  | nil => simp at h
  | cons a l => exact List.mem_cons_self ..
theorem take_add' (l : List Int) (a b : Nat) : l.take a ++ (l.drop a).take b = l.take (a + b) := by
  rw [← List.take_add]
/-- A row of kids, named. -/
theorem nameK_ok (f : S31 → List Int → S31 × List Int) (p : S31 → List Int) (Q : S31 → S31 → Prop) (xs : List S31)
    (hf : ∀ x ∈ xs, ∀ l : List Int, (p x).length ≤ l.length → (∀ n ∈ l, 1 ≤ n ∧ n ≤ 999) → Q x (f x l).1 ∧ p (f x l).1 = l.take (p x).length ∧ (f x l).2 = l.drop (p x).length) :
    ∀ l : List Int, (xs.flatMap p).length ≤ l.length → (∀ n ∈ l, 1 ≤ n ∧ n ≤ 999) →
      (∀ y ∈ (nameK f xs l).1, ∃ x ∈ xs, Q x y) ∧ (nameK f xs l).1.flatMap p = l.take (xs.flatMap p).length ∧ (nameK f xs l).2 = l.drop (xs.flatMap p).length := by
  induction xs with
  | nil => intro l _ _; exact ⟨fun y hy => (by cases hy), rfl, rfl⟩
  | cons x xs ih =>
    intro l hl hn
    rw [List.flatMap_cons, List.length_append] at hl ⊢
    obtain ⟨a1, a2, a3⟩ := hf x (List.mem_cons_self ..) l (by omega) hn
    obtain ⟨b1, b3, b4⟩ := ih (fun y hy => hf y (List.mem_cons_of_mem _ hy)) (l.drop (p x).length) (by rw [List.length_drop]; omega) (fun n hnm => hn n (List.mem_of_mem_drop hnm))
    simp only [nameK]
    rw [a3]
    refine ⟨fun y hy => ?_, ?_, ?_⟩
    · rcases List.mem_cons.1 hy with rfl | hy
      · exact ⟨x, List.mem_cons_self .., a1⟩
      · obtain ⟨x', hx', r⟩ := b1 y hy
        exact ⟨x', List.mem_cons_of_mem _ hx', r⟩
    · rw [List.flatMap_cons, a2, b3, take_add']
    · rw [b4, List.drop_drop]
theorem nameK_sum (f : S31 → List Int → S31 × List Int) (hf : ∀ x l, (f x l).1.f2 = x.f2) : ∀ (xs : List S31) (l : List Int), sumF (nameK f xs l).1 = sumF xs := by
  intro xs
  induction xs with
  | nil => intro l; rfl
  | cons x xs ih => intro l; simp only [nameK, sumF_cons, ih, hf]
theorem nameK_len (f : S31 → List Int → S31 × List Int) : ∀ (xs : List S31) (l : List Int), (nameK f xs l).1.length = xs.length := by
  intro xs
  induction xs with
  | nil => intro l; rfl
  | cons x xs ih => intro l; simp only [nameK, List.length_cons, ih]
theorem named_mk : ∀ (d k : Nat) (t : S31) (w h : Int) (l : List Int), Mk d t w h → d ≤ k → (psR d t).length ≤ l.length → (∀ n ∈ l, 1 ≤ n ∧ n ≤ 999) →
    Mk d (namedR k t l).1 w h ∧ psR d (namedR k t l).1 = l.take (psR d t).length ∧ (namedR k t l).2 = l.drop (psR d t).length := by
  intro d
  induction d with
  | zero => intro k t w h l hm; exact hm.elim
  | succ d ih =>
    intro k t w h l hm hdk hl hn
    obtain ⟨k, rfl⟩ : ∃ k', k = k' + 1 := ⟨k - 1, by omega⟩
    by_cases h0 : t.f0 = 0
    · have hp : psR (d + 1) t = [t.f1] := by unfold psR; rw [if_pos h0]
      rw [hp] at hl ⊢
      have hl' : 1 ≤ l.length := hl
      unfold namedR
      rw [if_pos h0]
      have hh := hn _ (headD_mem l hl')
      rcases hm with hm | hm
      · refine ⟨.inl ⟨h0, hm.2.1, hh.1, hh.2⟩, ?_, rfl⟩
        unfold psR
        rw [if_pos h0]
        exact headD_take l hl'
      · omega
    · obtain ⟨a, b, h2, hk, s⟩ := hm.kids h0
      have hp : psR (d + 1) t = t.f3.flatMap (psR d) := by unfold psR; rw [if_neg h0]
      rw [hp] at hl ⊢
      unfold namedR
      rw [if_neg h0]
      obtain ⟨c1, c3, c4⟩ := nameK_ok (namedR k) (psR d) (fun x y => y.f0 = x.f0 ∧ y.f2 = x.f2 ∧ Mk d y (kwd t.f0 x.f2 w) (khd t.f0 x.f2 h)) t.f3 (fun x hx l hl hn => by
        obtain ⟨e1, e2, e3⟩ := ih k x _ _ l (hk x hx).2.2.2 (by omega) hl hn
        have hh := named_head k x l
        exact ⟨⟨hh.1, hh.2.1, e1⟩, e2, e3⟩) l hl hn
      refine ⟨.inr ⟨a, b, by rw [nameK_len]; exact h2, fun y hy => ?_, ?_⟩, ?_, c4⟩
      · obtain ⟨x, hx, q0, q2, q3⟩ := c1 y hy
        have hx' := hk x hx
        show y.f0 ≠ t.f0 ∧ 1 ≤ y.f2 ∧ y.f2 ≤ 80 ∧ Mk d y (kwd t.f0 y.f2 w) (khd t.f0 y.f2 h)
        rw [q0, q2]
        exact ⟨hx'.1, hx'.2.1, hx'.2.2.1, q3⟩
      · show sumF (nameK (namedR k) t.f3 l).1 + ((nameK (namedR k) t.f3 l).1.length : Int) - 1 = alo t.f0 w h
        rw [nameK_len, nameK_sum _ (fun x l => (named_head k x l).2.1)]
        exact s
      · unfold psR
        rw [if_neg h0]
        exact c3
theorem nameK_own (f : S31 → List Int → S31 × List Int) (p : S31 → List Int) (xs : List S31) (hf : ∀ x ∈ xs, ∀ r, f x (p x ++ r) = (x, r)) : ∀ r, nameK f xs (xs.flatMap p ++ r) = (xs, r) := by
  induction xs with
  | nil => intro r; rfl
  | cons x xs ih =>
    intro r
    rw [List.flatMap_cons, List.append_assoc]
    simp only [nameK]
    rw [hf x (List.mem_cons_self ..)]
    simp only
    rw [ih (fun y hy => hf y (List.mem_cons_of_mem _ hy))]
theorem named_own : ∀ (d k : Nat) (t : S31) (w h : Int) (r : List Int), Mk d t w h → d ≤ k → namedR k t (psR d t ++ r) = (t, r) := by
  intro d
  induction d with
  | zero => intro k t w h r hm; exact hm.elim
  | succ d ih =>
    intro k t w h r hm hdk
    obtain ⟨k, rfl⟩ : ∃ k', k = k' + 1 := ⟨k - 1, by omega⟩
    unfold namedR psR
    by_cases h0 : t.f0 = 0
    · rw [if_pos h0, if_pos h0]
      simp only [List.singleton_append, List.headD_cons, List.drop_succ_cons, List.drop_zero, eta31]
    · rw [if_neg h0, if_neg h0]
      obtain ⟨_, _, _, hk, _⟩ := hm.kids h0
      rw [nameK_own (namedR k) (psR d) t.f3 (fun x hx r => ih k x _ _ r (hk x hx).2.2.2 (by omega)) r]
      simp only [eta31]
theorem nameK_twice (f : S31 → List Int → S31 × List Int) (hf : ∀ x l m, f (f x l).1 m = f x m) : ∀ (xs : List S31) (l m : List Int), nameK f (nameK f xs l).1 m = nameK f xs m := by
  intro xs
  induction xs with
  | nil => intro l m; rfl
  | cons x xs ih => intro l m; simp only [nameK, hf, ih]
theorem named_twice : ∀ (k : Nat) (t : S31) (l m : List Int), namedR k (namedR k t l).1 m = namedR k t m := by
  intro k
  induction k with
  | zero => intro t l m; rfl
  | succ k ih =>
    intro t l m
    by_cases h0 : t.f0 = 0
    · simp only [namedR, if_pos h0]
    · simp only [namedR, if_neg h0]
      rw [nameK_twice (namedR k) (fun x l m => ih x l m)]
end Go.Proofs.Ytplngfammfdemaa
end
