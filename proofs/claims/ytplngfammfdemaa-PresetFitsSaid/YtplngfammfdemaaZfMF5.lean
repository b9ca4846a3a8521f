-- Copies of the texts YtplngfammfdemaaMF1, YtplngfammfdemaaMF2, YtplngfammfdemaaMF3, YtplngfammfdemaaMF4, YtplngfammfdemaaMF5 with what this claim does not reach left out (prune.py, a program of this project).
import Derived.Test.YtplngfammfdemaaZfMF0
import Derived.Test.YtplngfammfdemaaZfQx27
section
namespace Go.Proofs.Ytplngfammfdemaa
open Go.RowKit Go.Proofs.YtplngfammfdemaaW.PrintWords Go.Proofs.YtplngfammfdemaaW.PrintMore Q
set_option linter.unusedVariables false
set_option linter.unusedSimpArgs false
def MadeAt (K : Nat) (t : S31) (w h deep : Int) : Prop := ∀ k, K ≤ k → tree_made.f k t.f0 t.f1 t.f2 t.f3 w h deep = some true
def LieAt (K : Nat) (t : S31) (x y w h : Int) (rs : List S44) : Prop := ∀ k, K ≤ k → tree_lie.f k t.f0 t.f1 t.f2 t.f3 0 x y w h = some rs
def PanesAt (K : Nat) (t : S31) (ps : List Int) : Prop := ∀ k, K ≤ k → panesK k t = some ps
theorem tin_yes {a lo hi : Int} (h : lo ≤ a ∧ a ≤ hi) : tree_in.f a lo hi = some true := by
  unfold tree_in.f; rw [if_pos h.1, decide_eq_true h.2]
theorem made_leaf (p s w h deep : Int) (hp : 1 ≤ p ∧ p ≤ 999) : MadeAt 1 ⟨0, p, s, []⟩ w h deep := by
  intro k hk
  obtain ⟨k, rfl⟩ : ∃ m, k = m + 1 := ⟨k - 1, by omega⟩
  simp only [tree_made.f]
  rw [if_pos trivial, if_pos (by rfl), tin_yes hp]; rfl
theorem lie_leaf (p s x y w h : Int) : LieAt 1 ⟨0, p, s, []⟩ x y w h [⟨p, x, y, w, h⟩] := by
  intro k hk
  obtain ⟨k, rfl⟩ : ∃ m, k = m + 1 := ⟨k - 1, by omega⟩
  simp only [tree_lie.f]
  rw [if_pos trivial]
theorem panes_leaf (p s : Int) : PanesAt 1 ⟨0, p, s, []⟩ [p] := by
  intro k hk
  obtain ⟨k, rfl⟩ : ∃ m, k = m + 1 := ⟨k - 1, by omega⟩
  simp only [panesK]
  rw [if_pos trivial]
/-- A kid's columns and rows, of its tree's. -/
def kw (kind : Int) (t : S31) (w : Int) : Int := if kind = 1 then t.f2 else w
def kh (kind : Int) (t : S31) (h : Int) : Int := if kind = 1 then h else t.f2
theorem sized_f (kind a b c : Int) (l : List S31) (w h : Int) : tree_sized.f kind a b c l w h = some (if kind = 1 then c else w, if kind = 1 then h else c) := by
  unfold tree_sized.f; split <;> rfl
def sumS (l : List S31) : Int := (l.map (·.f2)).sum
theorem sumS_cons (t : S31) (l : List S31) : sumS (t :: l) = t.f2 + sumS l := by simp [sumS]
theorem rd31_drop (l : List S31) (i : Nat) (h : i < l.length) : l.drop i = rd_T31 l (i : Int) :: l.drop (i + 1) := by
  rw [List.drop_eq_getElem_cons h, rd31_get l i h]
theorem rd31_mem (l : List S31) (i : Nat) (h : i < l.length) : rd_T31 l (i : Int) ∈ l := by
  rw [rd31_get l i h]; exact List.getElem_mem h
theorem made_node (K : Nat) (kind f1 f2 : Int) (kids : List S31) (w h deep : Int) (hkind : kind = 1 ∨ kind = 2) (hf1 : f1 = 0) (h2 : 2 ≤ kids.length) (h10 : kids.length ≤ 10) (hd0 : 0 ≤ deep) (hd : deep ≤ 8)
    (hk : ∀ t ∈ kids, t.f0 ≠ kind ∧ 1 ≤ t.f2 ∧ t.f2 ≤ 80 ∧ MadeAt K t (kw kind t w) (kh kind t h) (deep + 1)) (hs : sumS kids + kids.length - 1 = (if kind = 1 then w else h)) : MadeAt (K + kids.length + 4) ⟨kind, f1, f2, kids⟩ w h deep := by
  have loop : ∀ d i k (acc : Int), i + d = kids.length → K + d + 1 ≤ k → 0 ≤ acc → acc ≤ 10 + 80 * i → acc + sumS (kids.drop i) = (if kind = 1 then w else h) → tree_made.l0 k w h deep acc kids (kids.length : Int) (i : Int) kind f1 f2 kids = some true := by
    intro d
    induction d with
    | zero =>
      intro i k acc hi hk' ha hb hsum
      obtain ⟨k, rfl⟩ : ∃ m, k = m + 1 := ⟨k - 1, by omega⟩
      simp only [tree_made.l0]
      rw [if_neg (by omega)]
      have hal : tree_along.f kind w h = some (if kind = 1 then w else h) := by unfold tree_along.f; split <;> rfl
      rw [hal, Option.bind_some]
      rw [List.drop_eq_nil_of_le (by omega)] at hsum
      simp only [sumS, List.map_nil, List.sum_nil] at hsum
      rw [← hsum]; simp
    | succ d ih =>
      intro i k acc hi hk' ha hb hsum
      obtain ⟨k, rfl⟩ : ∃ m, k = m + 1 := ⟨k - 1, by omega⟩
      simp only [tree_made.l0]
      rw [if_pos (by omega), if_pos (by omega), if_pos (by omega), sized_f]
      obtain ⟨g1, g2, g3, g4⟩ := hk _ (rd31_mem kids i (by omega))
      simp only [Option.bind_some]
      rw [if_neg g1, tin_yes ⟨g2, g3⟩]
      simp only [Option.bind_some, if_true]
      rw [wrap_i (i := deep + 1) (by omega) (by omega)]
      have := g4 k (by omega)
      unfold kw kh at this
      rw [this]
      simp only [Option.bind_some, if_true]
      rw [wrap_i (by omega) (by omega), wrap_i (by omega) (by omega), show ((i : Int) + 1) = ((i + 1 : Nat) : Int) by omega]
      refine ih (i + 1) k _ (by omega) (by omega) (by omega) (by omega) ?_
      rw [rd31_drop kids i (by omega), sumS_cons] at hsum
      omega
  intro k hk'
  obtain ⟨k, rfl⟩ : ∃ m, k = m + 1 := ⟨k - 1, by omega⟩
  obtain ⟨k, rfl⟩ : ∃ m, k = m + 1 := ⟨k - 1, by omega⟩
  simp only [tree_made.f]
  rw [if_neg (by omega), tin_yes (by omega)]
  simp only [Option.bind_some, if_true]
  rw [if_pos hf1, if_neg (by omega)]
  simp only [tree_made.j0]
  rw [if_neg (by simp; omega), wrap_i (by omega) (by omega)]
  exact loop kids.length 0 k _ (by omega) (by omega) (by omega) (by omega) (by rw [List.drop_zero]; omega)
theorem panes_node (K : Nat) (kind f1 f2 : Int) (kids : List S31) (hkind : kind ≠ 0) (h10 : kids.length ≤ 10) (F : S31 → List Int) (hk : ∀ t ∈ kids, PanesAt K t (F t)) : PanesAt (K + 1) ⟨kind, f1, f2, kids⟩ (kids.flatMap F) := by
  intro k hk'
  obtain ⟨k, rfl⟩ : ∃ m, k = m + 1 := ⟨k - 1, by omega⟩
  simp only [panesK]
  rw [if_neg hkind, if_pos (by omega)]
  have : ∀ l : List S31, (∀ t ∈ l, t ∈ kids) → allK (panesK k) l = some (l.flatMap F) := by
    intro l
    induction l with
    | nil => intro _; rfl
    | cons t l ih =>
      intro h
      simp only [allK]
      rw [hk t (h t List.mem_cons_self) k (by omega), Option.bind_some, ih (fun x hx => h x (List.mem_cons_of_mem _ hx)), Option.bind_some, List.flatMap_cons]
  exact this kids (fun t h => h)
/-- Where the kids lie, one behind the other. -/
def LieKids (K : Nat) (kind w h : Int) : List S31 → Int → Int → List S44 → Prop
  | [], _, _, rs => rs = []
  | t :: l, x, y, rs => ∃ r1 r2, rs = r1 ++ r2 ∧ r1.length ≤ 10 ∧ LieAt K t x y (kw kind t w) (kh kind t h) r1 ∧ LieKids K kind w h l (if kind = 1 then x + (t.f2 + 1) else x) (if kind = 1 then y else y + (t.f2 + 1)) r2
theorem lie_node (K : Nat) (kind f1 f2 : Int) (kids : List S31) (x y w h : Int) (hkind : kind = 1 ∨ kind = 2) (h10 : kids.length ≤ 10) (hx : 0 ≤ x ∧ x ≤ 1000) (hy : 0 ≤ y ∧ y ≤ 1000) (hk : ∀ t ∈ kids, 1 ≤ t.f2 ∧ t.f2 ≤ 80) (rs : List S44) (hrs : LieKids K kind w h kids x y rs) : LieAt (K + kids.length + 4) ⟨kind, f1, f2, kids⟩ x y w h rs := by
  have loop : ∀ d i k (acc rs : List S44) (x' y' : Int), i + d = kids.length → K + d + 1 ≤ k → 0 ≤ x' → x' ≤ 1000 + 81 * i → 0 ≤ y' → y' ≤ 1000 + 81 * i → acc.length ≤ 10 * i → LieKids K kind w h (kids.drop i) x' y' rs → tree_lie.l0 k acc x' y' kids (kids.length : Int) (i : Int) kind f1 f2 kids 0 x y w h = some (acc ++ rs) := by
    intro d
    induction d with
    | zero =>
      intro i k acc rs x' y' hi hk' _ _ _ _ hacc hl
      obtain ⟨k, rfl⟩ : ∃ m, k = m + 1 := ⟨k - 1, by omega⟩
      simp only [tree_lie.l0]
      rw [if_neg (by omega)]
      rw [List.drop_eq_nil_of_le (by omega)] at hl
      rw [show rs = [] from hl, List.append_nil]
    | succ d ih =>
      intro i k acc rs x' y' hi hk' hx0 hx1 hy0 hy1 hacc hl
      obtain ⟨k, rfl⟩ : ∃ m, k = m + 1 := ⟨k - 1, by omega⟩
      simp only [tree_lie.l0]
      rw [if_pos (by omega), if_pos (by omega), if_pos (by omega), sized_f]
      rw [rd31_drop kids i (by omega)] at hl
      obtain ⟨r1, r2, rfl, hlen, h1, h2⟩ := hl
      obtain ⟨g1, g2⟩ := hk _ (rd31_mem kids i (by omega))
      simp only [Option.bind_some]
      have := h1 k (by omega)
      unfold kw kh at this
      rw [this]
      simp only [Option.bind_some]
      rw [if_pos (by omega)]
      rcases hkind with rfl | rfl
      · simp only [if_true] at h2 ⊢
        rw [wrap_i (i := (rd_T31 kids (i : Int)).f2 + 1) (by omega) (by omega), wrap_i (i := x' + _) (by omega) (by omega), wrap_i (by omega) (by omega), show ((i : Int) + 1) = ((i + 1 : Nat) : Int) by omega, ih (i + 1) k (acc ++ r1) r2 _ y' (by omega) (by omega) (by omega) (by omega) hy0 (by omega) (by rw [List.length_append]; omega) h2, List.append_assoc]
      · simp only [show ((2 : Int) = 1) = False from eq_false (by omega), if_false] at h2 ⊢
        rw [wrap_i (i := (rd_T31 kids (i : Int)).f2 + 1) (by omega) (by omega), wrap_i (i := y' + _) (by omega) (by omega), wrap_i (by omega) (by omega), show ((i : Int) + 1) = ((i + 1 : Nat) : Int) by omega, ih (i + 1) k (acc ++ r1) r2 x' _ (by omega) (by omega) hx0 (by omega) (by omega) (by omega) (by rw [List.length_append]; omega) h2, List.append_assoc]
  intro k hk'
  obtain ⟨k, rfl⟩ : ∃ m, k = m + 1 := ⟨k - 1, by omega⟩
  simp only [tree_lie.f]
  rw [if_neg (by omega)]
  have := loop kids.length 0 k [] rs x y (by omega) (by omega) hx.1 (by omega) hy.1 (by omega) (by simp) (by rw [List.drop_zero]; exact hrs)
  rw [List.nil_append] at this
  exact this
end Go.Proofs.Ytplngfammfdemaa
end
section
namespace Go.Proofs.Ytplngfammfdemaa
open Go.RowKit Go.Proofs.YtplngfammfdemaaW.PrintWords Go.Proofs.YtplngfammfdemaaW.PrintMore Q
set_option linter.unusedVariables false
set_option linter.unusedSimpArgs false
/-- The first lies at x, y. -/
def PH (x y : Int) (rs : List S44) : Prop := ∃ r l, rs = r :: l ∧ r.f1 = x ∧ r.f2 = y
def GT (K : Nat) (D B w h : Int) (Q : Int → Int → List S44 → Prop) (t : S31) (L : List Int) : Prop :=
  PanesAt K t L ∧ (∀ deep, 0 ≤ deep → deep ≤ D → MadeAt K t w h deep) ∧ ∀ x y, 0 ≤ x → x ≤ B → 0 ≤ y → y ≤ B → ∃ rs, LieAt K t x y w h rs ∧ rs.map (·.f0) = L ∧ PH x y rs ∧ Q x y rs
theorem GT_mono {K K' : Nat} {D D' B B' w h : Int} {Q Q' : Int → Int → List S44 → Prop} {t : S31} {L : List Int} (g : GT K D B w h Q t L) (hK : K ≤ K') (hD : D' ≤ D) (hB : B' ≤ B) (hQ : ∀ x y rs, Q x y rs → Q' x y rs) : GT K' D' B' w h Q' t L := by
  obtain ⟨h1, h2, h3⟩ := g
  refine ⟨fun k hk => h1 k (Nat.le_trans hK hk), fun deep a b k hk => h2 deep a (by omega) k (Nat.le_trans hK hk), fun x y a b c d => ?_⟩
  obtain ⟨rs, g1, g2, g3, g4⟩ := h3 x y a (by omega) c (by omega)
  exact ⟨rs, fun k hk => g1 k (Nat.le_trans hK hk), g2, g3, hQ _ _ _ g4⟩
/-- The panes of a tree, at K rounds. -/
def pOf (K : Nat) (t : S31) : List Int := (panesK K t).getD []
theorem pOf_eq {K : Nat} {D B w h : Int} {Q : Int → Int → List S44 → Prop} {t : S31} {L : List Int} (g : GT K D B w h Q t L) : pOf K t = L := by
  unfold pOf; rw [g.1 K (Nat.le_refl _)]; rfl
theorem gt_leaf (p s w h D B : Int) (Q : Int → Int → List S44 → Prop) (hp : 1 ≤ p ∧ p ≤ 999) (hQ : ∀ x y, Q x y [⟨p, x, y, w, h⟩]) : GT 1 D B w h Q ⟨0, p, s, []⟩ [p] :=
  ⟨panes_leaf p s, fun deep _ _ => made_leaf p s w h deep hp, fun x y _ _ _ _ => ⟨_, lie_leaf p s x y w h, rfl, ⟨_, _, rfl, rfl, rfl⟩, hQ x y⟩⟩
theorem lie_kids (K : Nat) (kind w h B : Int) (hkind : kind = 1 ∨ kind = 2) (Q Qk : Int → Int → List S44 → Prop) (D : Int) (hnil : ∀ x y, Q x y [])
    (happ : ∀ (x y n : Int) r1 r2, Qk x y r1 → Q (if kind = 1 then x + n else x) (if kind = 1 then y else y + n) r2 → Q x y (r1 ++ r2)) :
    ∀ l : List S31, (∀ t ∈ l, 1 ≤ t.f2 ∧ t.f2 ≤ 80 ∧ (pOf K t).length ≤ 10 ∧ GT K D B (kw kind t w) (kh kind t h) Qk t (pOf K t)) → ∀ x y, 0 ≤ x → x + 81 * l.length ≤ B → 0 ≤ y → y + 81 * l.length ≤ B →
      ∃ rs, LieKids K kind w h l x y rs ∧ rs.map (·.f0) = l.flatMap (pOf K) ∧ Q x y rs ∧ (l ≠ [] → PH x y rs) := by
  intro l
  induction l with
  | nil => intro _ x y _ _ _ _; exact ⟨[], rfl, rfl, hnil x y, fun h => absurd rfl h⟩
  | cons t l ih =>
    intro hk x y hx hxB hy hyB
    obtain ⟨g1, g2, g3, g4, g5, g6⟩ := hk t List.mem_cons_self
    rw [List.length_cons] at hxB hyB
    obtain ⟨r1, e1, e2, e3, e4⟩ := g6 x y hx (by omega) hy (by omega)
    obtain ⟨r2, d1, d2, d3, d4⟩ := ih (fun t' ht => hk t' (List.mem_cons_of_mem _ ht)) (if kind = 1 then x + (t.f2 + 1) else x) (if kind = 1 then y else y + (t.f2 + 1)) (by split <;> omega) (by split <;> omega) (by split <;> omega) (by split <;> omega)
    refine ⟨r1 ++ r2, ⟨r1, r2, rfl, ?_, e1, d1⟩, ?_, happ x y (t.f2 + 1) r1 r2 e4 d3, fun _ => ?_⟩
    · have := congrArg List.length e2
      rw [List.length_map] at this
      omega
    · rw [List.map_append, e2, d2, List.flatMap_cons]
    · obtain ⟨r, l', rfl, a, b⟩ := e3
      exact ⟨r, l' ++ r2, rfl, a, b⟩
theorem gt_node (K : Nat) (D B kind w h : Int) (kids : List S31) (hkind : kind = 1 ∨ kind = 2) (h2 : 2 ≤ kids.length) (h10 : kids.length ≤ 10) (hD : D ≤ 8) (hB : B ≤ 1000) (Q Qk : Int → Int → List S44 → Prop) (hnil : ∀ x y, Q x y [])
    (happ : ∀ (x y n : Int) r1 r2, Qk x y r1 → Q (if kind = 1 then x + n else x) (if kind = 1 then y else y + n) r2 → Q x y (r1 ++ r2))
    (hk : ∀ t ∈ kids, t.f0 ≠ kind ∧ 1 ≤ t.f2 ∧ t.f2 ≤ 80 ∧ (pOf K t).length ≤ 10 ∧ GT K (D + 1) (B + 810) (kw kind t w) (kh kind t h) Qk t (pOf K t)) (hs : sumS kids + kids.length - 1 = (if kind = 1 then w else h)) (s : Int) :
    GT (K + kids.length + 4) D B w h Q ⟨kind, 0, s, kids⟩ (kids.flatMap (pOf K)) := by
  refine ⟨?_, ?_, ?_⟩
  · intro k hk'
    exact panes_node K kind 0 s kids (by omega) h10 (pOf K) (fun t ht => (hk t ht).2.2.2.2.1) k (by omega)
  · intro deep h0 hd
    exact made_node K kind 0 s kids w h deep hkind rfl h2 h10 h0 (by omega) (fun t ht => ⟨(hk t ht).1, (hk t ht).2.1, (hk t ht).2.2.1, (hk t ht).2.2.2.2.2.1 _ (by omega) (by omega)⟩) hs
  · intro x y hx hxB hy hyB
    obtain ⟨rs, d1, d2, d3, d4⟩ := lie_kids K kind w h (B + 810) hkind Q Qk (D + 1) hnil happ kids (fun t ht => (hk t ht).2) x y hx (by omega) hy (by omega)
    exact ⟨rs, lie_node K kind 0 s kids x y w h hkind h10 ⟨hx, by omega⟩ ⟨hy, by omega⟩ (fun t ht => ⟨(hk t ht).2.1, (hk t ht).2.2.1⟩) rs d1, d2, d4 (by intro h; rw [h] at h2; simp at h2), d3⟩
/-- What a way to lay answers: such a tree, or no room. -/
def Gr (K : Nat) (D B kind w h : Int) (Q : Int → Int → List S44 → Prop) (L : List Int) (room : Prop) (x : Option R5) : Prop :=
  ∃ a b l ok, x = some (a, b, 0, l, ok) ∧ (ok = false → ¬ room) ∧ (ok = true → (a = 0 ∨ a = kind) ∧ ∀ s, GT K D B w h Q ⟨a, b, s, l⟩ L)
end Go.Proofs.Ytplngfammfdemaa
end
section
namespace Go.Proofs.Ytplngfammfdemaa
open Go.RowKit Go.Proofs.YtplngfammfdemaaW.PrintWords Go.Proofs.YtplngfammfdemaaW.PrintMore Q
set_option linter.unusedVariables false
set_option linter.unusedSimpArgs false
def evCk2 (c m : Nat) : Bool :=
  match preset_Even.f 100 (c : Int) (m : Int) with
  | some (l, e) => if e = 0 then decide (l.length = m) && (l.all (fun x => decide (1 ≤ x ∧ x ≤ 80)) && decide (l.sum + (m : Int) - 1 = (c : Int))) else decide (c < 2 * m - 1)
  | _ => false
set_option maxRecDepth 1000000 in
theorem evCk2_all : ∀ c : Nat, c < 81 → ∀ m : Nat, m < 9 → m = 0 ∨ evCk2 c m = true := by decide +kernel
theorem even_sum {c : Int} {m : Nat} (h0 : 0 ≤ c) (h1 : c ≤ 80) (hm : 1 ≤ m) (hm8 : m ≤ 8) : ∃ l e, (∀ k, 100 ≤ k → preset_Even.f k c (m : Int) = some (l, e)) ∧ ((e ≠ 0 ∧ c < 2 * m - 1) ∨ (e = 0 ∧ l.length = m ∧ (∀ x ∈ l, 1 ≤ x ∧ x ≤ 80) ∧ l.sum + (m : Int) - 1 = c)) := by
  obtain ⟨n, rfl⟩ := Int.eq_ofNat_of_zero_le h0
  have h := (evCk2_all n (by omega) m (by omega)).resolve_left (by omega)
  unfold evCk2 at h
  split at h
  · rename_i l e h2
    refine ⟨l, e, mono_ge (fun k => preset_Even.mono _ _ k) h2, ?_⟩
    split at h
    · rename_i he
      simp only [Bool.and_eq_true, decide_eq_true_eq, List.all_eq_true] at h
      exact .inr ⟨he, h.1, h.2.1, h.2.2⟩
    · rename_i he
      have := of_decide_eq_true h
      exact .inl ⟨he, by omega⟩
  · cases h
def Pok (L : List Int) : Prop := ∀ p ∈ L, 1 ≤ p ∧ p ≤ 999
theorem kf_mem {L S : List Int} {i d : Nat} {t : S31} (h : t ∈ kidsFrom L S i d) : ∃ j : Nat, i ≤ j ∧ j < i + d ∧ t = ⟨0, rd L (j : Int), rd S (j : Int), []⟩ := by
  unfold kidsFrom at h
  rw [List.mem_map] at h
  obtain ⟨j, hj, rfl⟩ := h
  rw [List.mem_range'] at hj
  obtain ⟨a, ha, rfl⟩ := hj
  exact ⟨_, by omega, by omega, rfl⟩
theorem rd_mem (L : List Int) (i : Nat) (h : i < L.length) : rd L (i : Int) ∈ L := by
  rw [rd_get L i h]; exact List.getElem_mem h
theorem drop_rd (L : List Int) (i : Nat) (h : i < L.length) : L.drop i = rd L (i : Int) :: L.drop (i + 1) := by
  rw [List.drop_eq_getElem_cons h, rd_get L i h]
theorem kf_panes (L S : List Int) : ∀ d i, i + d = L.length → (kidsFrom L S i d).flatMap (pOf 1) = L.drop i := by
  intro d
  induction d with
  | zero => intro i hi; rw [List.drop_eq_nil_of_le (by omega)]; rfl
  | succ d ih =>
    intro i hi
    rw [kidsFrom_succ, List.flatMap_cons, ih (i + 1) (by omega), drop_rd L i (by omega)]
    rfl
theorem kf_sum (L S : List Int) : ∀ d i, i + d = S.length → sumS (kidsFrom L S i d) = (S.drop i).sum := by
  intro d
  induction d with
  | zero => intro i hi; rw [List.drop_eq_nil_of_le (by omega)]; rfl
  | succ d ih =>
    intro i hi
    rw [kidsFrom_succ, sumS_cons, ih (i + 1) (by omega), drop_rd S i (by omega), List.sum_cons]
/-- Panes side by side, or one above another. -/
theorem line_gr (L : List Int) (h1 : 1 ≤ L.length) (h8 : L.length ≤ 8) (hp : Pok L) (kind : Int) (hk : kind = 1 ∨ kind = 2) (w h : Int) (h0 : 0 ≤ (if kind = 2 then h else w)) (h80 : (if kind = 2 then h else w) ≤ 80) (a3 : Int) (k : Nat) (hkk : 120 ≤ k) (D B : Int) (hD : D ≤ 7) (hB : B ≤ 1000) (Q : Int → Int → List S44 → Prop) (hnil : ∀ x y, Q x y [])
    (happ : ∀ (x y n : Int) r1 r2, Q x y r1 → Q (if kind = 1 then x + n else x) (if kind = 1 then y else y + n) r2 → Q x y (r1 ++ r2))
    (hone : ∀ (p x y n : Int), Q x y [⟨p, x, y, if kind = 1 then n else w, if kind = 1 then h else n⟩]) (hself : ∀ (p x y : Int), Q x y [⟨p, x, y, w, h⟩]) :
    Gr 13 D B kind w h Q L (2 * (L.length : Int) - 1 ≤ (if kind = 2 then h else w)) (preset_sharedPane.f k w h kind (chunksN 1 L.length L) a3) := by
  unfold preset_sharedPane.f preset_sharedG.f
  rw [chunksN_length]
  by_cases hn : (L.length : Int) = 1
  · rw [if_pos hn, if_pos (show (0 : Int) < (L.length : Int) by omega)]
    rw [layPane_F, show (0 : Int) = ((0 : Nat) : Int) from rfl, chunk_one L L.length 0 (by omega) rfl, pane_one]
    refine ⟨_, _, _, _, rfl, fun h => (by cases h), fun _ => ⟨.inl rfl, fun s => ?_⟩⟩
    have e : L = [rd L ((0 : Nat) : Int)] := by
      have := drop_rd L 0 (by omega)
      rw [List.drop_zero, List.drop_eq_nil_of_le (by omega)] at this
      exact this
    have g := gt_leaf (rd L ((0 : Nat) : Int)) s w h D B Q (hp _ (rd_mem L 0 (by omega))) (hself _)
    rw [← e] at g
    exact GT_mono g (by omega) (by omega) (by omega) (fun _ _ _ h => h)
  · rw [if_neg hn]
    have hal : preset_size_along.f w h kind = some (if kind = 2 then h else w) := by
      unfold preset_size_along.f
      rcases hk with rfl | rfl
      · rfl
      · rfl
    rw [hal]
    simp only [Option.bind_some]
    have hcw : (if kind = 2 then h else w) = (if kind = 1 then w else h) := by rcases hk with rfl | rfl <;> rfl
    rw [hcw] at h0 h80 ⊢
    obtain ⟨l, e, he2, hcase⟩ := even_sum h0 h80 h1 h8
    rw [he2 k (by omega)]
    simp only [Option.bind_some]
    rcases hcase with ⟨hne, hlt⟩ | ⟨rfl, hlen, hb, hsum⟩
    · rw [if_neg hne]
      exact ⟨_, _, _, _, rfl, fun _ => by omega, fun h => by cases h⟩
    · rw [if_pos rfl]
      have h2 := shared_loop L l L.length rfl hlen h8 kind w h L.length 0 [] k (by omega) rfl (by omega)
      rw [show ((0 : Nat) : Int) = 0 from rfl] at h2
      rw [h2, List.nil_append]
      refine ⟨_, _, _, _, rfl, fun h => (by cases h), fun _ => ⟨.inr rfl, fun s => ?_⟩⟩
      have g := gt_node 1 D B kind w h (kidsFrom L l 0 L.length) hk (by rw [kidsFrom_length]; omega) (by rw [kidsFrom_length]; omega) (by omega) hB Q Q hnil happ ?_ ?_ s
      · rw [kf_panes L l L.length 0 (by omega), List.drop_zero] at g
        exact GT_mono g (by rw [kidsFrom_length]; omega) (by omega) (by omega) (fun _ _ _ h => h)
      · intro t ht
        obtain ⟨j, hj0, hj1, rfl⟩ := kf_mem ht
        have hs1 := hb _ (rd_mem l j (by omega))
        refine ⟨by show (0 : Int) ≠ kind; omega, hs1.1, hs1.2, by show (1 : Nat) ≤ 10; omega, ?_⟩
        exact gt_leaf _ _ _ _ _ _ _ (hp _ (rd_mem L j (by omega))) (fun x y => hone _ x y _)
      · rw [kf_sum L l L.length 0 (by omega), List.drop_zero, kidsFrom_length]
        exact hsum
theorem row_gr (L : List Int) (h1 : 1 ≤ L.length) (h8 : L.length ≤ 8) (hp : Pok L) (w h : Int) (h0 : 0 ≤ w) (h80 : w ≤ 80) (k : Nat) (hkk : 120 ≤ k) (D B : Int) (hD : D ≤ 7) (hB : B ≤ 1000) : Gr 13 D B 1 w h (fun _ y rs => ∀ r ∈ rs, r.f4 = h ∧ r.f2 = y) L (2 * (L.length : Int) - 1 ≤ w) (preset_size_row.f k w h L) := by
  unfold preset_size_row.f
  rw [each_f L h1 h8, Option.bind_some, bind5]
  refine line_gr L h1 h8 hp 1 (.inl rfl) w h h0 h80 91 k hkk D B hD hB _ (by simp) ?_ (by simp) (by simp)
  intro x y n r1 r2 a b r hr
  rcases List.mem_append.1 hr with hr | hr
  · exact a r hr
  · exact b r hr
theorem pile_gr (L : List Int) (h1 : 1 ≤ L.length) (h8 : L.length ≤ 8) (hp : Pok L) (w h : Int) (h0 : 0 ≤ h) (h80 : h ≤ 80) (k : Nat) (hkk : 120 ≤ k) (D B : Int) (hD : D ≤ 7) (hB : B ≤ 1000) : Gr 13 D B 2 w h (fun x _ rs => ∀ r ∈ rs, r.f3 = w ∧ r.f1 = x) L (2 * (L.length : Int) - 1 ≤ h) (preset_size_pile.f k w h L) := by
  unfold preset_size_pile.f
  rw [each_f L h1 h8, Option.bind_some, bind5]
  refine line_gr L h1 h8 hp 2 (.inr rfl) w h h0 h80 91 k hkk D B hD hB _ (by simp) ?_ (by simp) (by simp)
  intro x y n r1 r2 a b r hr
  rcases List.mem_append.1 hr with hr | hr
  · exact a r hr
  · exact b r hr
end Go.Proofs.Ytplngfammfdemaa
end
section
namespace Go.Proofs.Ytplngfammfdemaa
open Go.RowKit Go.Proofs.YtplngfammfdemaaW.PrintWords Go.Proofs.YtplngfammfdemaaW.PrintMore Q
set_option linter.unusedVariables false
set_option linter.unusedSimpArgs false
def QT : Int → Int → List S44 → Prop := fun _ _ _ => True
theorem Gr_mono {K K' : Nat} {D D' B B' kind w h : Int} {Q Q' : Int → Int → List S44 → Prop} {L : List Int} {room room' : Prop} {x : Option R5} (g : Gr K D B kind w h Q L room x) (hK : K ≤ K') (hD : D' ≤ D) (hB : B' ≤ B) (hQ : ∀ x y rs, Q x y rs → Q' x y rs) (hr : room' → room) : Gr K' D' B' kind w h Q' L room' x := by
  obtain ⟨a, b, l, ok, h1, h2, h3⟩ := g
  exact ⟨a, b, l, ok, h1, fun h hr' => h2 h (hr hr'), fun h => ⟨(h3 h).1, fun s => GT_mono ((h3 h).2 s) hK hD hB hQ⟩⟩
theorem main_gr (Y : LayFn) (kind : Int) (hk : kind = 1 ∨ kind = 2) (L : List Int) (h1 : 1 ≤ L.length) (h8 : L.length ≤ 8) (hp : Pok L) (w h : Int) (hw0 : 1 ≤ w) (hw : w ≤ 80) (hh0 : 1 ≤ h) (hh : h ≤ 80) (a3 : Int) (k : Nat) (hkk : 130 ≤ k)
    (hY : ∀ (w' h' : Int), 0 ≤ w' → w' ≤ 80 → 0 ≤ h' → h' ≤ 80 → ∀ l : List Int, 1 ≤ l.length → l.length ≤ 8 → Pok l → Gr 13 1 810 (3 - kind) w' h' QT l (2 * (l.length : Int) - 1 ≤ (if kind = 1 then h' else w')) (Y.F k w' h' l)) :
    Gr 19 0 0 kind w h QT L (15 ≤ w ∧ 15 ≤ h) (preset_mainG.f Y k w h kind L a3) := by
  unfold preset_mainG.f
  have e0 : L = rd L ((0 : Nat) : Int) :: L.drop 1 := by
    have := drop_rd L 0 (by omega)
    rwa [List.drop_zero] at this
  by_cases hn : (L.length : Int) = 1
  · rw [if_pos hn]
    unfold preset_size_pane.f
    rw [if_pos (by omega)]
    refine ⟨_, _, _, _, rfl, fun h => (by cases h), fun _ => ⟨.inl rfl, fun s => ?_⟩⟩
    have g := gt_leaf (rd L ((0 : Nat) : Int)) s w h 0 0 QT (hp _ (rd_mem L 0 (by omega))) (fun _ _ => trivial)
    rw [List.drop_eq_nil_of_le (by omega)] at e0
    rw [← e0] at g
    exact GT_mono g (by omega) (by omega) (by omega) (fun _ _ _ h => h)
  · rw [if_neg hn]
    have hdl1 : 1 ≤ (L.drop 1).length := by rw [List.length_drop]; omega
    have hdl8 : (L.drop 1).length ≤ 8 := by rw [List.length_drop]; omega
    have hdp : Pok (L.drop 1) := fun p hp' => hp p (List.mem_of_mem_drop hp')
    have hlen : ((L.drop 1).length : Int) = (L.length : Int) - 1 := by rw [List.length_drop]; omega
    have fin : ∀ (n w' h' : Int) (x : Option R5), n = (if kind = 1 then w else h) - 1 → w' = (if kind = 1 then n / 2 else w) → h' = (if kind = 1 then h else n / 2) →
        Gr 13 1 810 (3 - kind) w' h' QT (L.drop 1) (2 * ((L.drop 1).length : Int) - 1 ≤ (if kind = 1 then h' else w')) x →
        Gr 19 0 0 kind w h QT L (15 ≤ w ∧ 15 ≤ h) (x.bind fun a => if n < 2 then some (0, 0, 0, [], false) else if a.2.2.2.2 = true then (if 0 < (L.length : Int) then some (kind, 0, 0, [⟨0, rd L 0, wrap64 (n - n / 2), []⟩, ⟨a.1, a.2.1, n / 2, a.2.2.2.1⟩], true) else none) else some (0, 0, 0, [], false)) := by
      intro n w' h' x en ew eh hx
      obtain ⟨a, b, l, ok, rfl, hno, hyes⟩ := hx
      have hn80 : n ≤ 79 := by rw [en]; split <;> omega
      have hn0 : 0 ≤ n := by rw [en]; split <;> omega
      simp only [Option.bind_some]
      by_cases hn2 : n < 2
      · rw [if_pos hn2]
        exact ⟨_, _, _, _, rfl, fun _ hr => (by rcases hk with rfl | rfl <;> simp at en <;> omega), fun h => (by cases h)⟩
      · rw [if_neg hn2]
        by_cases ht : ok = true
        · rw [if_pos ht, if_pos (by omega)]
          obtain ⟨ha, hg⟩ := hyes ht
          refine ⟨_, _, _, _, rfl, fun h => (by cases h), fun _ => ⟨.inr rfl, fun s => ?_⟩⟩
          have hsub := hg (n / 2)
          have hw1 : wrap64 (n - n / 2) = n - n / 2 := wrap_i (by omega) (by omega)
          rw [hw1]
          have g := gt_node 13 0 0 kind w h [⟨0, rd L ((0 : Nat) : Int), n - n / 2, []⟩, ⟨a, b, n / 2, l⟩] hk (by simp) (by simp) (by omega) (by omega) QT QT (fun _ _ => trivial) (fun _ _ _ _ _ _ _ => trivial) ?_ ?_ s
          · have e : ([⟨0, rd L ((0 : Nat) : Int), n - n / 2, []⟩, ⟨a, b, n / 2, l⟩] : List S31).flatMap (pOf 13) = L := by
              rw [List.flatMap_cons, List.flatMap_cons, pOf_eq hsub, List.flatMap_nil, List.append_nil]
              exact e0.symm
            rw [e] at g
            exact g
          · intro t ht'
            simp only [List.mem_cons, List.not_mem_nil, or_false] at ht'
            rcases ht' with rfl | rfl
            · refine ⟨by show (0 : Int) ≠ kind; omega, by show 1 ≤ n - n / 2; omega, by show n - n / 2 ≤ 80; omega, by show (1 : Nat) ≤ 10; omega, ?_⟩
              exact GT_mono (gt_leaf _ _ _ _ 1 810 QT (hp _ (rd_mem L 0 (by omega))) (fun _ _ => trivial)) (by omega) (by omega) (by omega) (fun _ _ _ h => h)
            · refine ⟨by show a ≠ kind; omega, by show 1 ≤ n / 2; omega, by show n / 2 ≤ 80; omega, by rw [pOf_eq hsub]; omega, ?_⟩
              rw [pOf_eq hsub]
              have ew' : kw kind ⟨a, b, n / 2, l⟩ w = w' := ew.symm
              have eh' : kh kind ⟨a, b, n / 2, l⟩ h = h' := eh.symm
              rw [ew', eh']
              exact GT_mono hsub (by omega) (by omega) (by omega) (fun _ _ _ h => h)
          · simp only [sumS, List.map_cons, List.map_nil, List.sum_cons, List.sum_nil, List.length_cons, List.length_nil]
            rw [en]; split <;> omega
        · rw [if_neg ht]
          refine ⟨_, _, _, _, rfl, fun _ hr => hno (by simpa using ht) ?_, fun h => (by cases h)⟩
          rw [hlen]
          rcases hk with rfl | rfl
          · rw [if_pos rfl] at eh ⊢; omega
          · rw [if_neg (by omega)] at ew ⊢; omega
    rcases hk with rfl | rfl
    · have w1 : wrap64 (w - 1) = w - 1 := wrap_i (by omega) (by omega)
      have w2 := tdiv2 (x := w - 1) (by omega) (by omega)
      simp only [preset_size_along.f, if_true, Option.bind_some, preset_size_with.f]
      rw [if_pos (by omega), w1, w2]
      exact fin (w - 1) _ _ _ (by rw [if_pos rfl]) (by rw [if_pos rfl]) (by rw [if_pos rfl]) (hY ((w - 1) / 2) h (by omega) (by omega) (by omega) hh (L.drop 1) hdl1 hdl8 hdp)
    · have w1 : wrap64 (h - 1) = h - 1 := wrap_i (by omega) (by omega)
      have w2 := tdiv2 (x := h - 1) (by omega) (by omega)
      have e1 : preset_size_along.f w h 2 = some h := rfl
      have e2 : ∀ x, preset_size_with.f w h 2 x = some (w, x) := fun x => rfl
      rw [e1]
      simp only [Option.bind_some]
      rw [e2]
      simp only [Option.bind_some]
      rw [if_pos (by omega), w1, w2]
      exact fin (h - 1) _ _ _ (by rw [if_neg (by omega)]) (by rw [if_neg (by omega)]) (by rw [if_neg (by omega)]) (hY w ((h - 1) / 2) (by omega) hw (by omega) (by omega) (L.drop 1) hdl1 hdl8 hdp)
theorem left_gr (L : List Int) (h1 : 1 ≤ L.length) (h8 : L.length ≤ 8) (hp : Pok L) (w h : Int) (hw0 : 1 ≤ w) (hw : w ≤ 80) (hh0 : 1 ≤ h) (hh : h ≤ 80) (k : Nat) (hkk : 130 ≤ k) : Gr 19 0 0 1 w h QT L (15 ≤ w ∧ 15 ≤ h) (preset_size_left.f k w h L) := by
  unfold preset_size_left.f
  rw [bind5]
  exact main_gr layPile 1 (.inl rfl) L h1 h8 hp w h hw0 hw hh0 hh 47 k hkk (fun w' h' a b c d l l1 l8 lp => Gr_mono (pile_gr l l1 l8 lp w' h' c d k (by omega) 1 810 (by omega) (by omega)) (by omega) (by omega) (by omega) (fun _ _ _ _ => trivial) (fun h => by rwa [if_pos rfl] at h))
theorem top_gr (L : List Int) (h1 : 1 ≤ L.length) (h8 : L.length ≤ 8) (hp : Pok L) (w h : Int) (hw0 : 1 ≤ w) (hw : w ≤ 80) (hh0 : 1 ≤ h) (hh : h ≤ 80) (k : Nat) (hkk : 130 ≤ k) : Gr 19 0 0 2 w h QT L (15 ≤ w ∧ 15 ≤ h) (preset_size_top.f k w h L) := by
  unfold preset_size_top.f
  rw [bind5]
  exact main_gr layRow_ 2 (.inr rfl) L h1 h8 hp w h hw0 hw hh0 hh 46 k hkk (fun w' h' a b c d l l1 l8 lp => Gr_mono (row_gr l l1 l8 lp w' h' a b k (by omega) 1 810 (by omega) (by omega)) (by omega) (by omega) (by omega) (fun _ _ _ _ => trivial) (fun h => by rwa [if_neg (by omega)] at h))
end Go.Proofs.Ytplngfammfdemaa
end
section
namespace Go.Proofs.Ytplngfammfdemaa
open Go.RowKit Go.Proofs.YtplngfammfdemaaW.PrintWords Go.Proofs.YtplngfammfdemaaW.PrintMore Q
set_option linter.unusedVariables false
set_option linter.unusedSimpArgs false
theorem take_rd (L : List Int) (i : Nat) (h : i < L.length) : (L.take (i + 1)).sum = (L.take i).sum + rd L (i : Int) := by
  rw [List.take_succ_eq_append_getElem h, List.sum_append, rd_get L i h]
  simp
theorem rows_gr_loop (L S : List Int) (c many : Nat) (hc : 1 ≤ c) (hc3 : c ≤ 3) (h8 : L.length ≤ 8) (hp : Pok L) (hS : S.length = many) (hm8 : many ≤ 8) (hm2 : 2 ≤ many) (hlt : ∀ i, i < many → i * c < L.length) (hle : L.length ≤ many * c) (w h : Int) (hw0 : 1 ≤ w) (hw : w ≤ 80) (hb : ∀ x ∈ S, 1 ≤ x ∧ x ≤ 80) (hsum : S.sum + (many : Int) - 1 = h) :
    ∀ d i (acc : List S31) k, i + d = many → acc.length = i → (∀ t ∈ acc, t.f0 ≠ 2 ∧ 1 ≤ t.f2 ∧ t.f2 ≤ 80 ∧ (pOf 13 t).length ≤ 10 ∧ GT 13 1 810 w t.f2 QT t (pOf 13 t)) → acc.flatMap (pOf 13) = L.take (c * i) → sumS acc = (S.take i).sum → 121 + d ≤ k →
      Gr 30 0 0 2 w h QT L (15 ≤ w ∧ 15 ≤ h) (preset_sharedG.l0 layRow k 2 S (chunksN c many L) (many : Int) (i : Int) w h 2 0 0 acc) := by
  intro d
  induction d with
  | zero =>
    intro i acc k hi ha hac hpan hsu hk
    obtain ⟨k, rfl⟩ : ∃ m, k = m + 1 := ⟨k - 1, by omega⟩
    simp only [preset_sharedG.l0]
    rw [if_neg (by omega)]
    refine ⟨_, _, _, _, rfl, fun h => (by cases h), fun _ => ⟨.inr rfl, fun s => ?_⟩⟩
    have him : i = many := by omega
    subst him
    have g := gt_node 13 0 0 2 w h acc (.inr rfl) (by omega) (by omega) (by omega) (by omega) QT QT (fun _ _ => trivial) (fun _ _ _ _ _ _ _ => trivial) (fun t ht => hac t ht) (by rw [hsu, ha, List.take_of_length_le (by omega)]; exact hsum) s
    rw [hpan, List.take_of_length_le (by rw [Nat.mul_comm]; exact hle)] at g
    exact GT_mono g (by omega) (by omega) (by omega) (fun _ _ _ h => h)
  | succ d ih =>
    intro i acc k hi ha hac hpan hsu hk
    obtain ⟨k, rfl⟩ : ∃ m, k = m + 1 := ⟨k - 1, by omega⟩
    simp only [preset_sharedG.l0]
    have hil := hlt i (by omega)
    rw [if_pos (by omega), if_pos (by omega), if_pos (by rw [chunksN_length]; omega), if_pos (by omega)]
    rw [show preset_size_with.f w h 2 (rd S (i : Int)) = some (w, rd S (i : Int)) from rfl]
    simp only [Option.bind_some]
    rw [row_F, rd_chunks c many L i (by omega)]
    have hs1 := hb _ (rd_mem S i (by omega))
    have hcl : (chunkAt c L i).length ≤ 3 := by
      unfold chunkAt
      rw [List.length_take]
      omega
    have hcp : Pok (chunkAt c L i) := by
      intro p hp'
      unfold chunkAt at hp'
      exact hp p (List.mem_of_mem_drop (List.mem_of_mem_take hp'))
    obtain ⟨a, b, l, ok, hA, hno, hyes⟩ := row_gr (chunkAt c L i) (chunk_len1 c hc L i hil) (chunk_len8 c (by omega) L i) hcp w (rd S (i : Int)) (by omega) hw k (by omega) 1 810 (by omega) (by omega)
    rw [hA]
    simp only [Option.bind_some]
    by_cases ht : ok = true
    · obtain ⟨h0, hg⟩ := hyes ht
      have hsub := hg (rd S (i : Int))
      rw [if_pos ht, if_pos (by omega), wrap_i (by omega) (by omega), show ((i : Int) + 1) = ((i + 1 : Nat) : Int) by omega]
      refine ih (i + 1) _ k (by omega) (by rw [List.length_append, ha]; rfl) ?_ ?_ ?_ (by omega)
      · intro t ht'
        rcases List.mem_append.1 ht' with ht' | ht'
        · exact hac t ht'
        · rw [List.mem_singleton.1 ht']
          refine ⟨by show a ≠ 2; omega, hs1.1, hs1.2, by rw [pOf_eq hsub]; omega, ?_⟩
          rw [pOf_eq hsub]
          exact GT_mono hsub (by omega) (by omega) (by omega) (fun _ _ _ _ => trivial)
      · rw [List.flatMap_append, hpan, List.flatMap_cons, List.flatMap_nil, List.append_nil, pOf_eq hsub]
        have e := cut_lower c L i
        have hcc : c * i ≤ c * (i + 1) := Nat.mul_le_mul_left c (by omega)
        have e2 : (L.take (c * (i + 1))).take (c * i) = L.take (c * i) := by rw [List.take_take, Nat.min_eq_left hcc]
        rw [← e, ← e2, List.take_append_drop]
      · rw [take_rd S i (by omega), ← hsu]
        unfold sumS
        rw [List.map_append, List.sum_append]
        simp
    · rw [if_neg ht]
      exact ⟨_, _, _, _, rfl, fun _ hr => hno (by simpa using ht) (by omega), fun h => (by cases h)⟩
theorem rows_at_gr (L : List Int) (h1 : 1 ≤ L.length) (h8 : L.length ≤ 8) (hp : Pok L) (c : Nat) (hc : 1 ≤ c) (hc3 : c ≤ 3) (hcc : L.length ≤ c * c) (w h : Int) (hw0 : 1 ≤ w) (hw : w ≤ 80) (hh0 : 1 ≤ h) (hh : h ≤ 80) (k : Nat) (hk : 140 ≤ k) :
    ∃ kd, Gr 30 0 0 kd w h QT L (15 ≤ w ∧ 15 ≤ h) (preset_sharedRow.f k w h 2 (chunksN c (rowsN L.length c) L) 46) := by
  have hle := rowsN_le (n := L.length) hc
  have hlt : ∀ i, i < rowsN L.length c → i * c < L.length := fun i hi => rowsN_lt hc hi
  generalize rowsN L.length c = many at hle hlt
  have hm1 : 1 ≤ many := by
    rcases Nat.eq_zero_or_pos many with h0 | h0
    · subst h0; omega
    · exact h0
  have hm3 : many ≤ c := by
    rcases Nat.lt_or_ge c many with h0 | h0
    · have := hlt c h0; omega
    · exact h0
  unfold preset_sharedRow.f preset_sharedG.f
  rw [chunksN_length]
  by_cases hmm : (many : Int) = 1
  · rw [if_pos hmm, if_pos (by omega), row_F, show (0 : Int) = ((0 : Nat) : Int) from rfl, rd_chunks c many L 0 (by omega)]
    have e : chunkAt c L 0 = L := by
      unfold chunkAt
      rw [Nat.zero_mul, List.drop_zero, List.take_of_length_le]
      have : many = 1 := by omega
      subst this
      omega
    rw [e, bind5]
    exact ⟨1, Gr_mono (row_gr L h1 h8 hp w h (by omega) hw k (by omega) 0 0 (by omega) (by omega)) (by omega) (by omega) (by omega) (fun _ _ _ _ => trivial) (fun h => by omega)⟩
  · rw [if_neg hmm, show preset_size_along.f w h 2 = some h from rfl]
    simp only [Option.bind_some]
    obtain ⟨l, e, he2, hcase⟩ := even_sum (c := h) (by omega) hh hm1 (by omega)
    rw [he2 k (by omega)]
    simp only [Option.bind_some]
    rcases hcase with ⟨hne, hlt2⟩ | ⟨rfl, hlen, hb, hsum⟩
    · rw [if_neg hne]
      exact ⟨2, _, _, _, _, rfl, fun _ => (by omega), fun h => (by cases h)⟩
    · rw [if_pos rfl]
      exact ⟨2, rows_gr_loop L l c many hc hc3 h8 hp hlen (by omega) (by omega) hlt hle w h hw0 hw hb hsum many 0 [] k (by omega) rfl (by simp) (by simp) (by simp [sumS]) (by omega)⟩
theorem rows_stop_gr (L : List Int) (h1 : 1 ≤ L.length) (h8 : L.length ≤ 8) (hp : Pok L) (c : Nat) (hc : 1 ≤ c) (hc3 : c ≤ 3) (hcc : L.length ≤ c * c) (w h : Int) (hw0 : 1 ≤ w) (hw : w ≤ 80) (hh0 : 1 ≤ h) (hh : h ≤ 80) (k : Nat) (hk : 140 ≤ k) :
    ∃ kd, Gr 30 0 0 kd w h QT L (15 ≤ w ∧ 15 ≤ h) (preset_size_rows.l0 (k + 1) L (c : Int) w h) := by
  have hw2 : wrap64 ((c : Int) * (c : Int)) = ((c * c : Nat) : Int) := by
    rw [← Int.natCast_mul]
    have : c * c ≤ 3 * 3 := Nat.mul_le_mul hc3 hc3
    exact wrap_i (by omega) (by omega)
  simp only [preset_size_rows.l0]
  rw [hw2, if_neg (by omega), chunk_f L h1 h8 c hc hc3]
  simp only [Option.bind_some, slices_Collect_int.f]
  rw [bind5]
  exact rows_at_gr L h1 h8 hp c hc hc3 hcc w h hw0 hw hh0 hh k hk
theorem rows_gr (L : List Int) (h1 : 1 ≤ L.length) (h8 : L.length ≤ 8) (hp : Pok L) (w h : Int) (hw0 : 1 ≤ w) (hw : w ≤ 80) (hh0 : 1 ≤ h) (hh : h ≤ 80) (k : Nat) (hk : 150 ≤ k) : ∃ kd, Gr 30 0 0 kd w h QT L (15 ≤ w ∧ 15 ≤ h) (preset_size_rows.f k w h L) := by
  unfold preset_size_rows.f
  obtain ⟨k, rfl⟩ : ∃ m, k = m + 3 := ⟨k - 3, by omega⟩
  rw [show (1 : Int) = ((1 : Nat) : Int) from rfl]
  by_cases c1 : L.length ≤ 1 * 1
  · exact rows_stop_gr L h1 h8 hp 1 (by omega) (by omega) c1 w h hw0 hw hh0 hh (k + 2) (by omega)
  · rw [rows_go1 L 1 (by omega) (by omega) w h (k + 2)]
    by_cases c2 : L.length ≤ 2 * 2
    · exact rows_stop_gr L h1 h8 hp 2 (by omega) (by omega) c2 w h hw0 hw hh0 hh (k + 1) (by omega)
    · rw [rows_go1 L 2 (by omega) (by omega) w h (k + 1)]
      exact rows_stop_gr L h1 h8 hp 3 (by omega) (by omega) (by omega) w h hw0 hw hh0 hh k (by omega)
/-- What is asked of where the panes lie. -/
def Qh (how w h : Int) (x y : Int) (rs : List S44) : Prop := (how = 1 → ∀ r ∈ rs, r.f4 = h ∧ r.f2 = y) ∧ (how = 2 → ∀ r ∈ rs, r.f3 = w ∧ r.f1 = x)
theorem how_gr (L : List Int) (h1 : 1 ≤ L.length) (h8 : L.length ≤ 8) (hp : Pok L) (how w h : Int) (hh1 : 1 ≤ how) (hh5 : how ≤ 5) (hw1 : 1 ≤ w) (hw : w ≤ 80) (hb1 : 1 ≤ h) (hb : h ≤ 50) (k : Nat) (hk : 150 ≤ k) :
    ∃ kd, Gr 30 0 0 kd w h (Qh how w h) L (15 ≤ w ∧ 15 ≤ h) (preset_layHow.f k (wrap64 (how - 1)) w h L) := by
  rw [wrap_i (by omega) (by omega)]
  unfold preset_layHow.f
  by_cases e1 : how = 1
  · subst e1
    rw [if_pos (by omega)]
    exact ⟨1, Gr_mono (row_gr L h1 h8 hp w h (by omega) hw k (by omega) 0 0 (by omega) (by omega)) (by omega) (by omega) (by omega) (fun x y rs g => ⟨fun _ => g, fun h => by omega⟩) (fun h => by omega)⟩
  rw [if_neg (by omega)]
  by_cases e2 : how = 2
  · subst e2
    rw [if_pos (by omega)]
    exact ⟨2, Gr_mono (pile_gr L h1 h8 hp w h (by omega) (by omega) k (by omega) 0 0 (by omega) (by omega)) (by omega) (by omega) (by omega) (fun x y rs g => ⟨fun h => (by omega), fun _ => g⟩) (fun h => by omega)⟩
  rw [if_neg (by omega)]
  have tr : ∀ x y rs, QT x y rs → Qh how w h x y rs := fun x y rs _ => ⟨fun h => absurd h e1, fun h => absurd h e2⟩
  by_cases e3 : how = 3
  · rw [if_pos (by omega)]
    exact ⟨1, Gr_mono (left_gr L h1 h8 hp w h hw1 hw hb1 (by omega) k (by omega)) (by omega) (by omega) (by omega) tr (fun h => h)⟩
  rw [if_neg (by omega)]
  by_cases e4 : how = 4
  · rw [if_pos (by omega)]
    exact ⟨2, Gr_mono (top_gr L h1 h8 hp w h hw1 hw hb1 (by omega) k (by omega)) (by omega) (by omega) (by omega) tr (fun h => h)⟩
  rw [if_neg (by omega), if_pos (by omega)]
  obtain ⟨kd, g⟩ := rows_gr L h1 h8 hp w h hw1 hw hb1 (by omega) k (by omega)
  exact ⟨kd, Gr_mono g (by omega) (by omega) (by omega) tr (fun h => h)⟩
end Go.Proofs.Ytplngfammfdemaa
end
