-- Copies of the texts YtplngfammfdemaaTS3, YtplngfammfdemaaTS4, YtplngfammfdemaaTS5, YtplngfammfdemaaTS6, YtplngfammfdemaaTS7, YtplngfammfdemaaMS0 with what this claim does not reach left out (prune.py, a program of this project).
import Derived.Test.YtplngfammfdemaaZyTS2
section
namespace Go.Proofs.Ytplngfammfdemaa
open Q
set_option linter.unusedVariables false
set_option linter.unusedSimpArgs false
theorem psR_node (k : Nat) {t : S31} (h : t.f0 ≠ 0) : psR (k + 1) t = t.f3.flatMap (psR k) := by simp only [psR, if_neg h]
theorem psR_leaf (k : Nat) {t : S31} (h : t.f0 = 0) : psR (k + 1) t = [t.f1] := by simp only [psR, if_pos h]
/-- The panes of any tree that may be. -/
def psA (t : S31) : List Int := psR 20 t
def hasA (p : Int) (t : S31) : Bool := decide (p ∈ psA t)
theorem psA_of {d : Nat} {t : S31} {w h : Int} (hm : Mk d t w h) (hd : d ≤ 20) : psA t = psR d t := ps_fuel d 20 t w h hm hd
theorem psA_leaf {t : S31} (h : t.f0 = 0) : psA t = [t.f1] := psR_leaf 19 h
theorem psA_19 {t : S31} (h : t.f0 ≠ 0) : psA t = t.f3.flatMap (psR 19) := psR_node 19 h
theorem psA_node {d : Nat} {t : S31} {w h : Int} (hm : Mk (d + 1) t w h) (hd : d + 1 ≤ 20) (h0 : t.f0 ≠ 0) : psA t = t.f3.flatMap psA := by
  rw [psA_of hm hd]
  unfold psR
  rw [if_neg h0]
  obtain ⟨_, _, _, hk, _⟩ := hm.kids h0
  exact flat_congr _ _ _ (fun x hx => (psA_of (hk x hx).2.2.2 (by omega)).symm)
theorem psA_size (x : S31) (s : Int) : psA (withSize x s) = psA x := ps_size 20 x s
theorem hasA_size (p : Int) (x : S31) (s : Int) : hasA p (withSize x s) = hasA p x := by unfold hasA; rw [psA_size]
/-- How many cells a pane has along a way. -/
def cellsL (f : S31 → Int) (pane : Int) : List S31 → Int
  | [] => 0
  | x :: xs => if hasA pane x = true then f x else cellsL f pane xs
def cellsR : Nat → S31 → Int → Int → Int → Int → Int
  | 0, _, _, _, _, _ => 0
  | k + 1, t, w, h, pane, kind => if t.f0 = 0 then alo kind w h else cellsL (fun x => cellsR k x (kwd t.f0 x.f2 w) (khd t.f0 x.f2 h) pane kind) pane t.f3
def young (fresh n : Int) : S31 := ⟨0, fresh, (n - 1) / 2, []⟩
def splitL (f : S31 → S31) (tk pane kind fresh n : Int) : List S31 → List S31
  | [] => []
  | x :: xs => if x.f0 = 0 ∧ x.f1 = pane ∧ tk = kind then withSize x (n - 1 - (n - 1) / 2) :: young fresh n :: xs else if hasA pane x = true then f x :: xs else x :: splitL f tk pane kind fresh n xs
def splitR : Nat → S31 → Int → Int → Int → Int → S31
  | 0, t, _, _, _, _ => t
  | k + 1, t, pane, kind, fresh, n => if t.f0 = 0 then ⟨kind, 0, t.f2, [⟨0, pane, n - 1 - (n - 1) / 2, []⟩, young fresh n]⟩ else ⟨t.f0, t.f1, t.f2, splitL (fun x => splitR k x pane kind fresh n) t.f0 pane kind fresh n t.f3⟩
/-- A kid that has a pane, and those ahead of it, that have not. -/
theorem find_kid (p : Int) : ∀ (l : List S31), (∃ x ∈ l, hasA p x = true) → ∃ A x B, l = A ++ x :: B ∧ (∀ y ∈ A, hasA p y = false) ∧ hasA p x = true := by
  intro l
  induction l with
  | nil => rintro ⟨x, hx, _⟩; cases hx
  | cons y l ih =>
    rintro ⟨x, hx, hp⟩
    by_cases hy : hasA p y = true
    · exact ⟨[], y, l, rfl, fun z hz => (by cases hz), hy⟩
    · rcases List.mem_cons.1 hx with rfl | hx
      · exact absurd hp hy
      · obtain ⟨A, z, B, rfl, h1, h2⟩ := ih ⟨x, hx, hp⟩
        refine ⟨y :: A, z, B, rfl, fun u hu => ?_, h2⟩
        rcases List.mem_cons.1 hu with rfl | hu
        · exact eq_false_of_ne_true hy
        · exact h1 u hu
theorem has_leaf {p : Int} {x : S31} (h0 : x.f0 = 0) : hasA p x = decide (p = x.f1) := by
  unfold hasA
  rw [psA_leaf h0]
  simp
theorem cellsL_at (f : S31 → Int) (p : Int) (A : List S31) (x : S31) (B : List S31) (hA : ∀ y ∈ A, hasA p y = false) (hx : hasA p x = true) : cellsL f p (A ++ x :: B) = f x := by
  induction A with
  | nil => unfold cellsL; exact if_pos hx
  | cons y A ih =>
    show (if hasA p y = true then f y else cellsL f p (A ++ x :: B)) = f x
    rw [if_neg (by rw [hA y (List.mem_cons_self ..)]; exact Bool.false_ne_true)]
    exact ih (fun z hz => hA z (List.mem_cons_of_mem _ hz))
theorem splitL_at (f : S31 → S31) (tk p kind fresh n : Int) (A : List S31) (x : S31) (B : List S31) (hA : ∀ y ∈ A, hasA p y = false) (hx : hasA p x = true) :
    splitL f tk p kind fresh n (A ++ x :: B) = A ++ (if x.f0 = 0 ∧ tk = kind then withSize x (n - 1 - (n - 1) / 2) :: young fresh n :: B else f x :: B) := by
  induction A with
  | nil =>
    show (if x.f0 = 0 ∧ x.f1 = p ∧ tk = kind then _ else if hasA p x = true then f x :: B else _) = _
    by_cases h : x.f0 = 0 ∧ tk = kind
    · have h1 : x.f1 = p := by
        rw [has_leaf h.1] at hx
        exact (of_decide_eq_true hx).symm
      rw [if_pos ⟨h.1, h1, h.2⟩, if_pos h]
      rfl
    · rw [if_neg (fun e => h ⟨e.1, e.2.2⟩), if_pos hx, if_neg h]
      rfl
  | cons y A ih =>
    have hy := hA y (List.mem_cons_self ..)
    show (if y.f0 = 0 ∧ y.f1 = p ∧ tk = kind then _ else if hasA p y = true then _ else y :: splitL f tk p kind fresh n (A ++ x :: B)) = _
    rw [if_neg (fun e => by
      rw [has_leaf e.1] at hy
      exact absurd e.2.1.symm (of_decide_eq_false hy)), if_neg (by rw [hy]; exact Bool.false_ne_true), ih (fun z hz => hA z (List.mem_cons_of_mem _ hz))]
    rfl
/-- A pane, and a fresh one behind it. -/
def insP (p f : Int) (l : List Int) : List Int := l.flatMap fun q => if q = p then [q, f] else [q]
theorem insP_append (p f : Int) (a b : List Int) : insP p f (a ++ b) = insP p f a ++ insP p f b := by unfold insP; rw [List.flatMap_append]
theorem insP_none (p f : Int) (l : List Int) (h : p ∉ l) : insP p f l = l := by
  induction l with
  | nil => rfl
  | cons q l ih =>
    unfold insP at ih ⊢
    rw [List.flatMap_cons, ih (fun e => h (List.mem_cons_of_mem _ e)), if_neg (fun e => h (by rw [e]; exact List.mem_cons_self ..))]
    rfl
theorem insP_one (p f : Int) : insP p f [p] = [p, f] := by unfold insP; simp
theorem flat_none (p : Int) (A : List S31) (hA : ∀ y ∈ A, hasA p y = false) : p ∉ A.flatMap psA := fun h => by
  obtain ⟨y, hy, hp⟩ := List.mem_flatMap.1 h
  exact absurd hp (of_decide_eq_false (hA y hy))
theorem kid_of {d : Nat} {t : S31} {w h : Int} {p : Int} (hm : Mk (d + 1) t w h) (hd : d + 1 ≤ 20) (h0 : t.f0 ≠ 0) (hp : p ∈ psA t) : ∃ x ∈ t.f3, hasA p x = true := by
  rw [psA_node hm hd h0] at hp
  obtain ⟨x, hx, hpx⟩ := List.mem_flatMap.1 hp
  exact ⟨x, hx, decide_eq_true hpx⟩
theorem alo_kid (kind s w h : Int) : alo kind (kwd kind s w) (khd kind s h) = s := by
  unfold alo kwd khd
  split <;> rfl
/-- What splitting makes. -/
theorem split_mk : ∀ (d k : Nat) (t : S31) (w h pane kind fresh n : Int), Mk d t w h → d ≤ k → d + 1 ≤ 20 → (psA t).Nodup → pane ∈ psA t → 1 ≤ fresh → fresh ≤ 999 → kind = 1 ∨ kind = 2 → 3 ≤ n → n ≤ 80 → cellsR k t w h pane kind = n →
    Mk (d + 1) (splitR k t pane kind fresh n) w h ∧ psA (splitR k t pane kind fresh n) = insP pane fresh (psA t) ∧ (splitR k t pane kind fresh n).f2 = t.f2 ∧ (splitR k t pane kind fresh n).f0 = (if t.f0 = 0 then kind else t.f0) := by
  intro d
  induction d with
  | zero => intro k t w h pane kind fresh n hm; exact hm.elim
  | succ d ih =>
    intro k t w h pane kind fresh n hm hdk h20 hnd hp hf1 hf9 hkind hn3 hn8 hc
    obtain ⟨k, rfl⟩ : ∃ k', k = k' + 1 := ⟨k - 1, by omega⟩
    by_cases h0 : t.f0 = 0
    · have hpp := hp
      rw [psA_leaf h0] at hpp ⊢
      have hpe := List.mem_singleton.1 hpp
      have hr := ps_range (d + 1) t w h hm
      have hpr : 1 ≤ pane ∧ pane ≤ 999 := hr pane (by rw [← psA_of hm (by omega)]; exact hp)
      unfold cellsR at hc
      rw [if_pos h0] at hc
      unfold splitR
      rw [if_pos h0, if_pos h0]
      refine ⟨.inr ⟨hkind, rfl, Nat.le_refl _, fun x hx => ?_, ?_⟩, ?_, rfl, rfl⟩
      · simp only [List.mem_cons, List.not_mem_nil, or_false] at hx
        rcases hx with rfl | rfl
        · exact ⟨by show (0 : Int) ≠ kind; omega, by show 1 ≤ n - 1 - (n - 1) / 2; omega, by show n - 1 - (n - 1) / 2 ≤ 80; omega, Mk.leaf rfl rfl hpr.1 hpr.2⟩
        · exact ⟨by show (0 : Int) ≠ kind; omega, by show 1 ≤ (n - 1) / 2; omega, by show (n - 1) / 2 ≤ 80; omega, Mk.leaf rfl rfl hf1 hf9⟩
      · show sumF [(⟨0, pane, n - 1 - (n - 1) / 2, []⟩ : S31), young fresh n] + (2 : Int) - 1 = alo kind w h
        rw [sumF_cons, sumF_cons, sumF_nil, hc]
        show n - 1 - (n - 1) / 2 + ((n - 1) / 2 + 0) + 2 - 1 = n
        omega
      · rw [← hpe, insP_one]
        rw [psA_19 (show (⟨kind, 0, t.f2, [⟨0, pane, n - 1 - (n - 1) / 2, []⟩, young fresh n]⟩ : S31).f0 ≠ 0 by show kind ≠ 0; omega)]
        rw [List.flatMap_cons, List.flatMap_cons, psR_leaf 18 rfl, psR_leaf 18 rfl]
        rfl
    · obtain ⟨hkd, hp0, h2, hk, hs⟩ := hm.kids h0
      obtain ⟨A, x, B, hl, hA, hx⟩ := find_kid pane t.f3 (kid_of hm (by omega) h0 hp)
      have hxm : x ∈ t.f3 := by rw [hl]; exact List.mem_append_right _ (List.mem_cons_self ..)
      have hkx := hk x hxm
      have hps := psA_node hm (by omega) h0
      rw [hl, List.flatMap_append, List.flatMap_cons] at hps
      rw [hps] at hnd
      have hndx : (psA x).Nodup := (List.nodup_append.1 (List.nodup_append.1 hnd).2.1).1
      have hnB : pane ∉ B.flatMap psA := fun e => by
        have := (List.nodup_append.1 (List.nodup_append.1 hnd).2.1).2.2
        exact this pane (of_decide_eq_true hx) pane e rfl
      have hnA := flat_none pane A hA
      unfold cellsR at hc
      rw [if_neg h0, hl, cellsL_at _ _ _ _ _ hA hx] at hc
      have hins : insP pane fresh (psA t) = A.flatMap psA ++ (insP pane fresh (psA x) ++ B.flatMap psA) := by rw [hps, insP_append, insP_append, insP_none _ _ _ hnA, insP_none _ _ _ hnB]
      unfold splitR
      rw [if_neg h0, if_neg h0, hl, splitL_at _ _ _ _ _ _ _ _ _ hA hx, hins]
      rw [hl, sumF_append, sumF_cons, List.length_append, List.length_cons] at hs
      rw [hl, List.length_append, List.length_cons] at h2
      by_cases hcase : x.f0 = 0 ∧ t.f0 = kind
      · rw [if_pos hcase]
        have hxp : pane = x.f1 := by rw [has_leaf hcase.1] at hx; exact of_decide_eq_true hx
        obtain ⟨d, rfl⟩ : ∃ d', d = d' + 1 := ⟨d - 1, by
          cases d with
          | zero => exact hkx.2.2.2.elim
          | succ d => rfl⟩
        have hcx : n = x.f2 := by
          obtain ⟨k, rfl⟩ : ∃ k', k = k' + 1 := ⟨k - 1, by omega⟩
          unfold cellsR at hc
          rw [if_pos hcase.1, ← hcase.2, alo_kid] at hc
          exact hc.symm
        have hleaf : Mk (d + 2) (withSize x (n - 1 - (n - 1) / 2)) (kwd t.f0 (n - 1 - (n - 1) / 2) w) (khd t.f0 (n - 1 - (n - 1) / 2) h) := by
          rcases hkx.2.2.2 with hq | hq
          · exact .inl hq
          · omega
        refine ⟨.inr ⟨hkd, hp0, by rw [List.length_append, List.length_cons, List.length_cons]; omega, fun y hy => ?_, ?_⟩, ?_, rfl, rfl⟩
        · show y.f0 ≠ t.f0 ∧ 1 ≤ y.f2 ∧ y.f2 ≤ 80 ∧ Mk (d + 2) y (kwd t.f0 y.f2 w) (khd t.f0 y.f2 h)
          rcases List.mem_append.1 hy with hy | hy
          · have := hk y (by rw [hl]; exact List.mem_append_left _ hy)
            exact ⟨this.1, this.2.1, this.2.2.1, this.2.2.2.up⟩
          · rcases List.mem_cons.1 hy with rfl | hy
            · exact ⟨hkx.1, by show 1 ≤ n - 1 - (n - 1) / 2; omega, by show n - 1 - (n - 1) / 2 ≤ 80; omega, hleaf⟩
            · rcases List.mem_cons.1 hy with rfl | hy
              · exact ⟨by show (0 : Int) ≠ t.f0; omega, by show 1 ≤ (n - 1) / 2; omega, by show (n - 1) / 2 ≤ 80; omega, Mk.leaf rfl rfl hf1 hf9⟩
              · have := hk y (by rw [hl]; exact List.mem_append_right _ (List.mem_cons_of_mem _ hy))
                exact ⟨this.1, this.2.1, this.2.2.1, this.2.2.2.up⟩
        · show sumF (A ++ withSize x (n - 1 - (n - 1) / 2) :: young fresh n :: B) + ((A ++ withSize x (n - 1 - (n - 1) / 2) :: young fresh n :: B).length : Int) - 1 = alo t.f0 w h
          rw [sumF_append, sumF_cons, sumF_cons, List.length_append, List.length_cons, List.length_cons]
          show sumF A + (n - 1 - (n - 1) / 2 + ((n - 1) / 2 + sumF B)) + _ - 1 = _
          omega
        · have hnew : ∀ (l : List S31) , (∀ y ∈ l, psR 19 y = psA y) → psA (⟨t.f0, t.f1, t.f2, l⟩ : S31) = l.flatMap psA := fun l hl => by
            rw [psA_19 (show (⟨t.f0, t.f1, t.f2, l⟩ : S31).f0 ≠ 0 from h0)]
            exact flat_congr _ _ _ hl
          have h19 : ∀ y ∈ t.f3, psR 19 y = psA y := fun y hy => by rw [psA_of (hk y hy).2.2.2 (by omega)]; exact ps_fuel _ _ _ _ _ (hk y hy).2.2.2 (by omega)
          rw [hnew _ (fun y hy => by
            rcases List.mem_append.1 hy with hy | hy
            · exact h19 y (by rw [hl]; exact List.mem_append_left _ hy)
            · rcases List.mem_cons.1 hy with rfl | hy
              · rw [psA_size, ← h19 x hxm]; exact ps_size 19 x _
              · rcases List.mem_cons.1 hy with rfl | hy
                · rw [psA_leaf (show (young fresh n).f0 = 0 from rfl)]; exact psR_leaf 18 rfl
                · exact h19 y (by rw [hl]; exact List.mem_append_right _ (List.mem_cons_of_mem _ hy)))]
          rw [List.flatMap_append, List.flatMap_cons, List.flatMap_cons, psA_size, psA_leaf hcase.1, ← hxp, insP_one, psA_leaf (show (young fresh n).f0 = 0 from rfl)]
          rfl
      · rw [if_neg hcase]
        obtain ⟨i1, i2, i3, i4⟩ := ih k x _ _ pane kind fresh n hkx.2.2.2 (by omega) (by omega) hndx (of_decide_eq_true hx) hf1 hf9 hkind hn3 hn8 hc
        have hx0 : (splitR k x pane kind fresh n).f0 ≠ t.f0 := by
          rw [i4]
          split
          · rename_i hx0; exact fun e => hcase ⟨hx0, e.symm⟩
          · exact hkx.1
        refine ⟨.inr ⟨hkd, hp0, by rw [List.length_append, List.length_cons]; omega, fun y hy => ?_, ?_⟩, ?_, rfl, rfl⟩
        · show y.f0 ≠ t.f0 ∧ 1 ≤ y.f2 ∧ y.f2 ≤ 80 ∧ Mk (d + 1) y (kwd t.f0 y.f2 w) (khd t.f0 y.f2 h)
          rcases List.mem_append.1 hy with hy | hy
          · have := hk y (by rw [hl]; exact List.mem_append_left _ hy)
            exact ⟨this.1, this.2.1, this.2.2.1, this.2.2.2.up⟩
          · rcases List.mem_cons.1 hy with rfl | hy
            · rw [i3]
              exact ⟨hx0, hkx.2.1, hkx.2.2.1, i1⟩
            · have := hk y (by rw [hl]; exact List.mem_append_right _ (List.mem_cons_of_mem _ hy))
              exact ⟨this.1, this.2.1, this.2.2.1, this.2.2.2.up⟩
        · show sumF (A ++ splitR k x pane kind fresh n :: B) + ((A ++ splitR k x pane kind fresh n :: B).length : Int) - 1 = alo t.f0 w h
          rw [sumF_append, sumF_cons, List.length_append, List.length_cons, i3]
          omega
        · have h19 : ∀ y ∈ t.f3, psR 19 y = psA y := fun y hy => by rw [psA_of (hk y hy).2.2.2 (by omega)]; exact ps_fuel _ _ _ _ _ (hk y hy).2.2.2 (by omega)
          rw [psA_19 (show (⟨t.f0, t.f1, t.f2, A ++ splitR k x pane kind fresh n :: B⟩ : S31).f0 ≠ 0 from h0), flat_congr _ (psR 19) psA (fun y hy => by
            rcases List.mem_append.1 hy with hy | hy
            · exact h19 y (by rw [hl]; exact List.mem_append_left _ hy)
            · rcases List.mem_cons.1 hy with rfl | hy
              · rw [psA_of i1 (by omega)]; exact ps_fuel _ _ _ _ _ i1 (by omega)
              · exact h19 y (by rw [hl]; exact List.mem_append_right _ (List.mem_cons_of_mem _ hy)))]
          rw [List.flatMap_append, List.flatMap_cons, i2]
end Go.Proofs.Ytplngfammfdemaa
end
section
namespace Go.Proofs.Ytplngfammfdemaa
open Q
set_option linter.unusedVariables false
set_option linter.unusedSimpArgs false
/-- The kid that takes over a gone kid's cells. -/
def heirR (k : Nat) (kind w h more : Int) (z : S31) : S31 := fitR k (withSize z (z.f2 + more)) (kwd kind (z.f2 + more) w) (khd kind (z.f2 + more) h)
/-- The one kid that is left is the tree. -/
def onlyR (t : S31) (l : List S31) : S31 := match l with
  | [z] => withSize z t.f2
  | _ => ⟨t.f0, t.f1, t.f2, l⟩
def killR : Nat → S31 → Int → Int → Int → S31
  | 0, t, _, _, _ => t
  | k + 1, t, w, h, pane =>
    match t.f3[t.f3.findIdx (hasA pane)]? with
    | none => t
    | some x =>
      if x.f0 = 0 then onlyR t ((t.f3.eraseIdx (t.f3.findIdx (hasA pane))).modify (t.f3.findIdx (hasA pane) - 1) (heirR k t.f0 w h (x.f2 + 1)))
      else if (killR k x (kwd t.f0 x.f2 w) (khd t.f0 x.f2 h) pane).f0 = t.f0 then
        ⟨t.f0, t.f1, t.f2, t.f3.take (t.f3.findIdx (hasA pane)) ++ (killR k x (kwd t.f0 x.f2 w) (khd t.f0 x.f2 h) pane).f3 ++ t.f3.drop (t.f3.findIdx (hasA pane) + 1)⟩
      else ⟨t.f0, t.f1, t.f2, t.f3.set (t.f3.findIdx (hasA pane)) (withSize (killR k x (kwd t.f0 x.f2 w) (khd t.f0 x.f2 h) pane) x.f2)⟩
theorem findIdx_at (p : S31 → Bool) (A : List S31) (x : S31) (B : List S31) (hA : ∀ y ∈ A, p y = false) (hx : p x = true) : (A ++ x :: B).findIdx p = A.length := by
  induction A with
  | nil => simp [List.findIdx_cons, hx]
  | cons y A ih =>
    rw [List.cons_append, List.findIdx_cons, hA y (List.mem_cons_self ..), ih (fun z hz => hA z (List.mem_cons_of_mem _ hz))]
    rfl
theorem get_at (A : List S31) (x : S31) (B : List S31) : (A ++ x :: B)[A.length]? = some x := by rw [List.getElem?_append_right (Nat.le_refl _), Nat.sub_self]; rfl
theorem erase_at (A : List S31) (x : S31) (B : List S31) : (A ++ x :: B).eraseIdx A.length = A ++ B := by
  induction A with
  | nil => rfl
  | cons y A ih => simp [List.eraseIdx_cons_succ, ih]
theorem set_at (A : List S31) (x y : S31) (B : List S31) : (A ++ x :: B).set A.length y = A ++ y :: B := by
  induction A with
  | nil => rfl
  | cons z A ih => simp
theorem modify_at (f : S31 → S31) (A : List S31) (x : S31) (B : List S31) : (A ++ x :: B).modify A.length f = A ++ f x :: B := by
  induction A with
  | nil => rfl
  | cons z A ih => simp [ih]
theorem mk_head {d : Nat} {x : S31} {w h : Int} (hm : Mk d x w h) : ∃ d', d = d' + 1 := by
  cases d with
  | zero => exact hm.elim
  | succ d => exact ⟨d, rfl⟩
theorem sumF_pos (l : List S31) (h : ∀ y ∈ l, 0 ≤ y.f2) : 0 ≤ sumF l := by
  induction l with
  | nil => exact Int.le_refl _
  | cons y l ih =>
    rw [sumF_cons]
    have := h y (List.mem_cons_self ..)
    have := ih (fun u hu => h u (List.mem_cons_of_mem _ hu))
    omega
/-- The heir, made right. -/
theorem heir_mk {d k : Nat} {kind w h more : Int} {z : S31} (hkind : kind = 1 ∨ kind = 2) (hm : Mk d z (kwd kind z.f2 w) (khd kind z.f2 h)) (hdk : d ≤ k) (hz : 1 ≤ z.f2) (hmore : 0 ≤ more) (h80 : z.f2 + more ≤ 80) (hw1 : 1 ≤ w) (hw8 : w ≤ 80) (hh1 : 1 ≤ h) (hh8 : h ≤ 80) :
    Mk d (heirR k kind w h more z) (kwd kind (z.f2 + more) w) (khd kind (z.f2 + more) h) ∧ (∀ e, psR e (heirR k kind w h more z) = psR e z) ∧ (heirR k kind w h more z).f2 = z.f2 + more ∧ (heirR k kind w h more z).f0 = z.f0 := by
  have hpos : 1 ≤ kwd kind z.f2 w ∧ 1 ≤ khd kind z.f2 h := by unfold kwd khd; split <;> omega
  have hpos2 : 1 ≤ kwd kind (z.f2 + more) w ∧ kwd kind (z.f2 + more) w ≤ 80 ∧ 1 ≤ khd kind (z.f2 + more) h ∧ khd kind (z.f2 + more) h ≤ 80 := by unfold kwd khd; split <;> omega
  have hl := least_le d k z _ _ hm hpos.1 hpos.2
  have hl2 : leastR k z 1 ≤ kwd kind (z.f2 + more) w ∧ leastR k z 2 ≤ khd kind (z.f2 + more) h := by
    unfold kwd khd at hl ⊢
    split at hl <;> rename_i hq
    · rw [if_pos hq, if_pos hq]; omega
    · rw [if_neg hq, if_neg hq]; omega
  obtain ⟨a, b⟩ := fit_mk d k (withSize z (z.f2 + more)) _ _ _ _ (mk_size _ hm) hpos.1 hpos.2 hpos2.1 hpos2.2.1 hpos2.2.2.1 hpos2.2.2.2 hdk (by rw [least_size]; exact hl2.1) (by rw [least_size]; exact hl2.2)
  have hf := fit_head k (withSize z (z.f2 + more)) (kwd kind (z.f2 + more) w) (khd kind (z.f2 + more) h)
  exact ⟨a, fun e => (b e).trans (ps_size e z _), hf.2.2, hf.1⟩
theorem only_many (t : S31) (l : List S31) (h : 2 ≤ l.length) : onlyR t l = ⟨t.f0, t.f1, t.f2, l⟩ := by
  match l, h with
  | a :: b :: l, _ => rfl
theorem erase_app {a b : List Int} {p : Int} (h : p ∉ a) : (a ++ b).erase p = a ++ b.erase p := List.erase_append_right _ h
theorem erase_one {p : Int} {b : List Int} : ([p] ++ b).erase p = b := by simp
theorem erase_in {a b : List Int} {p : Int} (h : p ∈ a) : (a ++ b).erase p = a.erase p ++ b := List.erase_append_left _ h
/-- What killing makes. -/
theorem kill_mk : ∀ (d k : Nat) (t : S31) (w h pane : Int), Mk d t w h → d ≤ k → d ≤ 19 → (psA t).Nodup → pane ∈ psA t → t.f0 ≠ 0 → 1 ≤ w → w ≤ 80 → 1 ≤ h → h ≤ 80 →
    Mk d (killR k t w h pane) w h ∧ psA (killR k t w h pane) = (psA t).erase pane ∧ (killR k t w h pane).f2 = t.f2 := by
  intro d
  induction d with
  | zero => intro k t w h pane hm; exact hm.elim
  | succ d ih =>
    intro k t w h pane hm hdk h19 hnd hp h0 hw1 hw8 hh1 hh8
    obtain ⟨k, rfl⟩ : ∃ k', k = k' + 1 := ⟨k - 1, by omega⟩
    obtain ⟨hkd, hp0, h2, hk, hs⟩ := hm.kids h0
    obtain ⟨A, x, B, hl, hA, hx⟩ := find_kid pane t.f3 (kid_of hm (by omega) h0 hp)
    have hxm : x ∈ t.f3 := by rw [hl]; exact List.mem_append_right _ (List.mem_cons_self ..)
    have hAm : ∀ y ∈ A, y ∈ t.f3 := fun y hy => by rw [hl]; exact List.mem_append_left _ hy
    have hBm : ∀ y ∈ B, y ∈ t.f3 := fun y hy => by rw [hl]; exact List.mem_append_right _ (List.mem_cons_of_mem _ hy)
    have hkx := hk x hxm
    obtain ⟨d, rfl⟩ := mk_head hkx.2.2.2
    have h19' : ∀ y ∈ t.f3, psR 19 y = psA y := fun y hy => by rw [psA_of (hk y hy).2.2.2 (by omega)]; exact ps_fuel _ _ _ _ _ (hk y hy).2.2.2 (by omega)
    have hps := psA_node hm (by omega) h0
    rw [hl, List.flatMap_append, List.flatMap_cons] at hps
    rw [hps] at hnd
    have hnA := flat_none pane A hA
    have hndx : (psA x).Nodup := (List.nodup_append.1 (List.nodup_append.1 hnd).2.1).1
    have hpx : pane ∈ psA x := of_decide_eq_true hx
    have hfi : t.f3.findIdx (hasA pane) = A.length := by rw [hl]; exact findIdx_at _ _ _ _ hA hx
    have hge : t.f3[A.length]? = some x := by rw [hl]; exact get_at _ _ _
    have hal : alo t.f0 w h ≤ 80 := by unfold alo; split <;> omega
    have hs' := hs
    rw [hl, sumF_append, sumF_cons, List.length_append, List.length_cons] at hs'
    have h2' := h2
    rw [hl, List.length_append, List.length_cons] at h2'
    have hmkl : ∀ l : List S31, (∀ y ∈ l, y.f0 ≠ t.f0 ∧ 1 ≤ y.f2 ∧ y.f2 ≤ 80 ∧ Mk (d + 1) y (kwd t.f0 y.f2 w) (khd t.f0 y.f2 h)) → 2 ≤ l.length → sumF l + l.length - 1 = alo t.f0 w h →
        Mk (d + 2) (⟨t.f0, t.f1, t.f2, l⟩ : S31) w h ∧ psA (⟨t.f0, t.f1, t.f2, l⟩ : S31) = l.flatMap psA := fun l hl1 hl2 hl3 => by
      have hm' : Mk (d + 2) (⟨t.f0, t.f1, t.f2, l⟩ : S31) w h := .inr ⟨hkd, hp0, hl2, hl1, hl3⟩
      exact ⟨hm', psA_node hm' (by omega) h0⟩
    unfold killR
    rw [hfi, hge]
    simp only
    by_cases hx0 : x.f0 = 0
    · rw [if_pos hx0, hl, erase_at]
      have hpx' : psA x = [pane] := by
        rw [psA_leaf hx0] at hpx ⊢
        rw [List.mem_singleton.1 hpx]
      have her : (psA t).erase pane = A.flatMap psA ++ B.flatMap psA := by
        rw [hps, erase_app hnA, hpx', erase_one]
      have hA0 : ∀ y ∈ A, 0 ≤ y.f2 := fun y hy => by have := (hk y (hAm y hy)).2.1; omega
      have hB0 : ∀ y ∈ B, 0 ≤ y.f2 := fun y hy => by have := (hk y (hBm y hy)).2.1; omega
      -- the heir, between those ahead and those behind
      have fin : ∀ (A' : List S31) (z : S31) (B' : List S31), A ++ B = A' ++ z :: B' → A.length - 1 = A'.length →
          Mk (d + 2) (onlyR t ((A ++ B).modify (A.length - 1) (heirR k t.f0 w h (x.f2 + 1)))) w h ∧ psA (onlyR t ((A ++ B).modify (A.length - 1) (heirR k t.f0 w h (x.f2 + 1)))) = A.flatMap psA ++ B.flatMap psA ∧ (onlyR t ((A ++ B).modify (A.length - 1) (heirR k t.f0 w h (x.f2 + 1)))).f2 = t.f2 := by
        intro A' z B' hAB hAl
        have hzm : z ∈ A ++ B := by rw [hAB]; exact List.mem_append_right _ (List.mem_cons_self ..)
        have hmem : ∀ y ∈ A ++ B, y ∈ t.f3 := fun y hy => (List.mem_append.1 hy).elim (hAm y) (hBm y)
        have hkz := hk z (hmem z hzm)
        have hsum : sumF A + sumF B = sumF A' + (z.f2 + sumF B') := by rw [← sumF_append, hAB, sumF_append, sumF_cons]
        have hlen : A.length + B.length = A'.length + (B'.length + 1) := by rw [← List.length_append, hAB, List.length_append, List.length_cons]
        have hA'0 : 0 ≤ sumF A' := sumF_pos _ (fun y hy => by have := (hk y (hmem y (by rw [hAB]; exact List.mem_append_left _ hy))).2.1; omega)
        have hB'0 : 0 ≤ sumF B' := sumF_pos _ (fun y hy => by have := (hk y (hmem y (by rw [hAB]; exact List.mem_append_right _ (List.mem_cons_of_mem _ hy)))).2.1; omega)
        have h80 : z.f2 + (x.f2 + 1) ≤ 80 := by omega
        obtain ⟨m1, m2, m3, m4⟩ := heir_mk (k := k) (more := x.f2 + 1) hkd hkz.2.2.2 (by omega) hkz.2.1 (by omega) h80 hw1 hw8 hh1 hh8
        rw [hAl, hAB, modify_at]
        generalize heirR k t.f0 w h (x.f2 + 1) z = z' at m1 m2 m3 m4 ⊢
        have hflat : A.flatMap psA ++ B.flatMap psA = A'.flatMap psA ++ (psA z' ++ B'.flatMap psA) := by
          rw [← List.flatMap_append, hAB, List.flatMap_append, List.flatMap_cons]
          show _ = _ ++ (psR 20 z' ++ _)
          rw [m2 20]
          rfl
        rw [hflat]
        by_cases hone : A'.length = 0 ∧ B'.length = 0
        · have hA' : A' = [] := List.eq_nil_of_length_eq_zero hone.1
          have hB' : B' = [] := List.eq_nil_of_length_eq_zero hone.2
          subst hA' hB'
          rw [sumF_nil] at hsum
          have hfull : z.f2 + (x.f2 + 1) = alo t.f0 w h := by simp at hlen; omega
          rw [hfull] at m1
          have hwh : kwd t.f0 (alo t.f0 w h) w = w ∧ khd t.f0 (alo t.f0 w h) h = h := by
            unfold kwd khd alo
            split <;> exact ⟨rfl, rfl⟩
          rw [hwh.1, hwh.2] at m1
          refine ⟨(mk_size t.f2 m1).up, ?_, rfl⟩
          show psA (withSize z' t.f2) = _
          rw [psA_size]
          simp
        · have hl2 : 2 ≤ (A' ++ z' :: B').length := by rw [List.length_append, List.length_cons]; omega
          rw [only_many t _ hl2]
          obtain ⟨q1, q2⟩ := hmkl (A' ++ z' :: B') (fun y hy => by
            rcases List.mem_append.1 hy with hy | hy
            · exact hk y (hmem y (by rw [hAB]; exact List.mem_append_left _ hy))
            · rcases List.mem_cons.1 hy with rfl | hy
              · rw [m3, m4]
                exact ⟨hkz.1, by omega, h80, m1⟩
              · exact hk y (hmem y (by rw [hAB]; exact List.mem_append_right _ (List.mem_cons_of_mem _ hy)))) hl2 (by
            rw [sumF_append, sumF_cons, List.length_append, List.length_cons, m3]
            omega)
          exact ⟨q1, by rw [q2, List.flatMap_append, List.flatMap_cons], rfl⟩
      rw [her]
      cases hA9 : A.reverse with
      | nil =>
        have hAn : A = [] := by simpa using hA9
        cases B with
        | nil => rw [hAn] at h2'; simp at h2'
        | cons z B' => exact fin [] z B' (by rw [hAn]) (by rw [hAn]; rfl)
      | cons z A' =>
        have hAn : A = A'.reverse ++ [z] := by
          have := congrArg List.reverse hA9
          simpa using this
        exact fin A'.reverse z B (by rw [hAn]; simp) (by rw [hAn]; simp)
    · rw [if_neg hx0]
      have hdim : 1 ≤ kwd t.f0 x.f2 w ∧ kwd t.f0 x.f2 w ≤ 80 ∧ 1 ≤ khd t.f0 x.f2 h ∧ khd t.f0 x.f2 h ≤ 80 := by
        have := hkx.2.1
        have := hkx.2.2.1
        unfold kwd khd
        split <;> omega
      obtain ⟨i1, i2, i3⟩ := ih k x _ _ pane hkx.2.2.2 (by omega) (by omega) hndx hpx hx0 hdim.1 hdim.2.1 hdim.2.2.1 hdim.2.2.2
      have her : (psA t).erase pane = A.flatMap psA ++ ((psA x).erase pane ++ B.flatMap psA) := by
        rw [hps, erase_app hnA, erase_in hpx]
      generalize killR k x (kwd t.f0 x.f2 w) (khd t.f0 x.f2 h) pane = y at i1 i2 i3 ⊢
      rw [her, ← i2]
      by_cases hy : y.f0 = t.f0
      · rw [if_pos hy]
        have hy0 : y.f0 ≠ 0 := by rw [hy]; exact h0
        obtain ⟨_, _, j2, jk, js⟩ := i1.kids hy0
        rw [hy, alo_kid] at js
        have htk : t.f3.take A.length = A := by rw [hl]; simp
        have hdr : t.f3.drop (A.length + 1) = B := by rw [hl]; simp
        rw [htk, hdr]
        obtain ⟨q1, q2⟩ := hmkl (A ++ y.f3 ++ B) (fun u hu => by
          rcases List.mem_append.1 hu with hu | hu
          · rcases List.mem_append.1 hu with hu | hu
            · exact hk u (hAm u hu)
            · have hju := jk u hu
              rw [hy] at hju
              refine ⟨hju.1, hju.2.1, hju.2.2.1, ?_⟩
              have e1 : kwd t.f0 u.f2 (kwd t.f0 x.f2 w) = kwd t.f0 u.f2 w := by unfold kwd; split <;> rfl
              have e2 : khd t.f0 u.f2 (khd t.f0 x.f2 h) = khd t.f0 u.f2 h := by unfold khd; split <;> rfl
              rw [e1, e2] at hju
              exact hju.2.2.2.up
          · exact hk u (hBm u hu)) (by rw [List.length_append, List.length_append]; omega) (by
          rw [sumF_append, sumF_append, List.length_append, List.length_append]
          omega)
        refine ⟨q1, ?_, rfl⟩
        rw [q2, List.flatMap_append, List.flatMap_append, psA_node i1 (by omega) hy0, List.append_assoc]
      · rw [if_neg hy, hl, set_at]
        obtain ⟨q1, q2⟩ := hmkl (A ++ withSize y x.f2 :: B) (fun u hu => by
          rcases List.mem_append.1 hu with hu | hu
          · exact hk u (hAm u hu)
          · rcases List.mem_cons.1 hu with rfl | hu
            · exact ⟨hy, hkx.2.1, hkx.2.2.1, mk_size _ i1⟩
            · exact hk u (hBm u hu)) (by rw [List.length_append, List.length_cons]; omega) (by
          rw [sumF_append, sumF_cons, List.length_append, List.length_cons]
          show sumF A + (x.f2 + sumF B) + _ - 1 = _
          omega)
        refine ⟨q1, ?_, rfl⟩
        rw [q2, List.flatMap_append, List.flatMap_cons, psA_size]
end Go.Proofs.Ytplngfammfdemaa
end
section
namespace Go.Proofs.Ytplngfammfdemaa
open Q
set_option linter.unusedVariables false
set_option linter.unusedSimpArgs false
theorem fit_leaf (k : Nat) (t : S31) (w h : Int) (h0 : t.f0 = 0) : fitR k t w h = t := by
  cases k with
  | zero => rfl
  | succ k => unfold fitR; exact if_pos h0
theorem heir_leaf (k : Nat) (kind w h more : Int) (z : S31) (h0 : z.f0 = 0) : heirR k kind w h more z = withSize z (z.f2 + more) := fit_leaf _ _ _ _ h0
theorem size_size (x : S31) (s s' : Int) : withSize (withSize x s) s' = withSize x s' := rfl
theorem size_same (x : S31) (s : Int) (h : s = x.f2) : withSize x s = x := by rw [h]; exact eta31 x
theorem kill_split : ∀ (d k k' : Nat) (t : S31) (w h pane kind fresh n : Int), Mk d t w h → d ≤ k → d + 1 ≤ k' → d + 1 ≤ 19 → (psA t).Nodup → pane ∈ psA t → fresh ∉ psA t → 1 ≤ fresh → fresh ≤ 999 → kind = 1 ∨ kind = 2 → 3 ≤ n → n ≤ 80 → cellsR k t w h pane kind = n →
    killR k' (splitR k t pane kind fresh n) w h fresh = t := by
  intro d
  induction d with
  | zero => intro k k' t w h pane kind fresh n hm; exact hm.elim
  | succ d ih =>
    intro k k' t w h pane kind fresh n hm hdk hdk' h19 hnd hp hfr hf1 hf9 hkind hn3 hn8 hc
    obtain ⟨k, rfl⟩ : ∃ j, k = j + 1 := ⟨k - 1, by omega⟩
    obtain ⟨k', rfl⟩ : ∃ j, k' = j + 1 := ⟨k' - 1, by omega⟩
    have hpf : pane ≠ fresh := fun e => hfr (e ▸ hp)
    have hyoung : hasA fresh (young fresh n) = true := by rw [has_leaf rfl]; exact decide_eq_true rfl
    by_cases h0 : t.f0 = 0
    · have hpe : pane = t.f1 := by rw [psA_leaf h0] at hp; exact List.mem_singleton.1 hp
      have h3 : t.f3 = [] := by
        rcases hm with hm | hm
        · exact hm.2.1
        · omega
      unfold splitR
      rw [if_pos h0]
      have hold : hasA fresh (⟨0, pane, n - 1 - (n - 1) / 2, []⟩ : S31) = false := by rw [has_leaf rfl]; exact decide_eq_false (fun e => hpf e.symm)
      have hfi : ([(⟨0, pane, n - 1 - (n - 1) / 2, []⟩ : S31), young fresh n]).findIdx (hasA fresh) = 1 := findIdx_at (hasA fresh) [⟨0, pane, n - 1 - (n - 1) / 2, []⟩] (young fresh n) [] (fun y hy => by rw [List.mem_singleton.1 hy]; exact hold) hyoung
      unfold killR
      simp only
      rw [hfi]
      show (if (young fresh n).f0 = 0 then onlyR _ ([heirR k' kind w h ((young fresh n).f2 + 1) (⟨0, pane, n - 1 - (n - 1) / 2, []⟩ : S31)]) else _) = t
      rw [if_pos (show (young fresh n).f0 = 0 from rfl), heir_leaf _ _ _ _ _ _ (show (⟨0, pane, n - 1 - (n - 1) / 2, []⟩ : S31).f0 = 0 from rfl)]
      show (⟨0, pane, t.f2, []⟩ : S31) = t
      rw [hpe, ← h0, ← h3]
      exact eta31 t
    · obtain ⟨hkd, hp0, h2, hk, hs⟩ := hm.kids h0
      obtain ⟨A, x, B, hl, hA, hx⟩ := find_kid pane t.f3 (kid_of hm (by omega) h0 hp)
      have hxm : x ∈ t.f3 := by rw [hl]; exact List.mem_append_right _ (List.mem_cons_self ..)
      have hkx := hk x hxm
      have hps := psA_node hm (by omega) h0
      rw [hl, List.flatMap_append, List.flatMap_cons] at hps
      rw [hps] at hnd hfr
      have hndx : (psA x).Nodup := (List.nodup_append.1 (List.nodup_append.1 hnd).2.1).1
      have hfx : fresh ∉ psA x := fun e => hfr (List.mem_append_right _ (List.mem_append_left _ e))
      have hfA : ∀ y ∈ A, hasA fresh y = false := fun y hy => decide_eq_false (fun e => hfr (List.mem_append_left _ (List.mem_flatMap.2 ⟨y, hy, e⟩)))
      have hfx' : hasA fresh x = false := decide_eq_false hfx
      unfold cellsR at hc
      rw [if_neg h0, hl, cellsL_at _ _ _ _ _ hA hx] at hc
      have h2' := h2
      rw [hl, List.length_append, List.length_cons] at h2'
      have heta : (⟨t.f0, t.f1, t.f2, A ++ x :: B⟩ : S31) = t := by rw [← hl]; exact eta31 t
      unfold splitR
      rw [if_neg h0, hl, splitL_at _ _ _ _ _ _ _ _ _ hA hx]
      by_cases hcase : x.f0 = 0 ∧ t.f0 = kind
      · rw [if_pos hcase]
        obtain ⟨d, rfl⟩ := mk_head hkx.2.2.2
        have hcx : n = x.f2 := by
          obtain ⟨k, rfl⟩ : ∃ j, k = j + 1 := ⟨k - 1, by omega⟩
          unfold cellsR at hc
          rw [if_pos hcase.1, ← hcase.2, alo_kid] at hc
          exact hc.symm
        have hsplit : A ++ withSize x (n - 1 - (n - 1) / 2) :: young fresh n :: B = (A ++ [withSize x (n - 1 - (n - 1) / 2)]) ++ young fresh n :: B := by simp
        have hA2 : ∀ y ∈ A ++ [withSize x (n - 1 - (n - 1) / 2)], hasA fresh y = false := fun y hy => by
          rcases List.mem_append.1 hy with hy | hy
          · exact hfA y hy
          · rw [List.mem_singleton.1 hy, hasA_size]; exact hfx'
        have hfi := findIdx_at (hasA fresh) (A ++ [withSize x (n - 1 - (n - 1) / 2)]) (young fresh n) B hA2 hyoung
        have hge := get_at (A ++ [withSize x (n - 1 - (n - 1) / 2)]) (young fresh n) B
        have her := erase_at (A ++ [withSize x (n - 1 - (n - 1) / 2)]) (young fresh n) B
        unfold killR
        simp only
        rw [hsplit, hfi, hge]
        simp only
        rw [if_pos (show (young fresh n).f0 = 0 from rfl), her]
        have hmod : ((A ++ [withSize x (n - 1 - (n - 1) / 2)]) ++ B).modify ((A ++ [withSize x (n - 1 - (n - 1) / 2)]).length - 1) (heirR k' t.f0 w h ((young fresh n).f2 + 1)) = A ++ x :: B := by
          have e1 : (A ++ [withSize x (n - 1 - (n - 1) / 2)]).length - 1 = A.length := by rw [List.length_append, List.length_singleton, Nat.add_sub_cancel]
          have e2 : (A ++ [withSize x (n - 1 - (n - 1) / 2)]) ++ B = A ++ withSize x (n - 1 - (n - 1) / 2) :: B := by simp
          rw [e1, e2, modify_at, heir_leaf _ _ _ _ _ _ (show (withSize x (n - 1 - (n - 1) / 2)).f0 = 0 from hcase.1), size_size, size_same]
          show n - 1 - (n - 1) / 2 + ((n - 1) / 2 + 1) = x.f2
          omega
        rw [hmod, only_many _ _ (by rw [List.length_append, List.length_cons]; exact h2')]
        exact heta
      · rw [if_neg hcase]
        obtain ⟨i1, i2, i3, i4⟩ := split_mk d k x _ _ pane kind fresh n hkx.2.2.2 (by omega) (by omega) hndx (of_decide_eq_true hx) hf1 hf9 hkind hn3 hn8 hc
        have hk9 := ih k k' x _ _ pane kind fresh n hkx.2.2.2 (by omega) (by omega) (by omega) hndx (of_decide_eq_true hx) hfx hf1 hf9 hkind hn3 hn8 hc
        generalize splitR k x pane kind fresh n = x' at i1 i2 i3 i4 hk9 ⊢
        have hx0 : x'.f0 ≠ 0 := by
          rw [i4]
          split
          · omega
          · rename_i hq; exact hq
        have hhas : hasA fresh x' = true := by
          unfold hasA
          rw [i2]
          refine decide_eq_true ?_
          unfold insP
          exact List.mem_flatMap.2 ⟨pane, of_decide_eq_true hx, by rw [if_pos rfl]; simp⟩
        unfold killR
        simp only
        rw [findIdx_at _ _ _ _ hfA hhas, get_at]
        simp only
        rw [if_neg hx0, i3, hk9, if_neg hkx.1, set_at, size_same x _ rfl]
        exact heta
end Go.Proofs.Ytplngfammfdemaa
end
section
namespace Go.Proofs.Ytplngfammfdemaa
open Q
set_option linter.unusedVariables false
set_option linter.unusedSimpArgs false
/-- Two that change places, in a list. -/
def swapL (l : List Int) (a b : Int) : List Int := (l.set (l.idxOf a) b).set (l.idxOf b) a
def swp2 (a b q : Int) : Int := if q = a then b else if q = b then a else q
theorem idx_at (a : Int) (A B : List Int) (h : a ∉ A) : (A ++ a :: B).idxOf a = A.length := by
  induction A with
  | nil => simp
  | cons y A ih =>
    rw [List.cons_append, List.idxOf_cons, ih (fun e => h (List.mem_cons_of_mem _ e))]
    have : (y == a) = false := beq_eq_false_iff_ne.2 (fun e => h (by rw [e]; exact List.mem_cons_self ..))
    rw [this]
    rfl
theorem set_app (A : List Int) (x y : Int) (B : List Int) : (A ++ x :: B).set A.length y = A ++ y :: B := by
  induction A with
  | nil => rfl
  | cons z A ih => simp
theorem split_at {a : Int} {l : List Int} (h : a ∈ l) (hn : l.Nodup) : ∃ A B, l = A ++ a :: B ∧ a ∉ A ∧ a ∉ B := by
  obtain ⟨A, B, rfl⟩ := List.append_of_mem h
  have h2 := List.nodup_append.1 hn
  refine ⟨A, B, rfl, fun e => h2.2.2 a e a (List.mem_cons_self ..) rfl, (List.nodup_cons.1 h2.2.1).1⟩
theorem map_not (a b : Int) (l : List Int) (ha : a ∉ l) (hb : b ∉ l) : l.map (swp2 a b) = l := by
  induction l with
  | nil => rfl
  | cons q l ih =>
    rw [List.map_cons, ih (fun e => ha (List.mem_cons_of_mem _ e)) (fun e => hb (List.mem_cons_of_mem _ e))]
    unfold swp2
    rw [if_neg (fun e => ha (by rw [e]; exact List.mem_cons_self ..)), if_neg (fun e => hb (by rw [e]; exact List.mem_cons_self ..))]
theorem swp_a (a b : Int) : swp2 a b a = b := by unfold swp2; exact if_pos rfl
theorem swp_b (a b : Int) : swp2 a b b = a := by
  unfold swp2
  by_cases h : b = a
  · rw [if_pos h, h]
  · rw [if_neg h, if_pos rfl]
/-- Where no two are the same, it is a change of names. -/
theorem swapL_map (l : List Int) (a b : Int) (hn : l.Nodup) (ha : a ∈ l) (hb : b ∈ l) (hab : a ≠ b) : swapL l a b = l.map (swp2 a b) := by
  obtain ⟨A, B, rfl, hA, hB⟩ := split_at ha hn
  have hn2 := List.nodup_append.1 hn
  rcases List.mem_append.1 hb with hbA | hbB
  · obtain ⟨C, D, rfl, hC, hD⟩ := split_at hbA hn2.1
    have haC : a ∉ C := fun e => hA (List.mem_append_left _ e)
    have haD : a ∉ D := fun e => hA (List.mem_append_right _ (List.mem_cons_of_mem _ e))
    have hbB : b ∉ B := fun e => hn2.2.2 b hbA b (List.mem_cons_of_mem _ e) rfl
    unfold swapL
    rw [idx_at a _ B hA, set_app]
    have e1 : (C ++ b :: D) ++ a :: B = C ++ b :: (D ++ a :: B) := by simp
    have e2 : (C ++ b :: D) ++ b :: B = C ++ b :: (D ++ b :: B) := by simp
    rw [e1, idx_at b C _ hC, e2, set_app]
    rw [List.map_append, List.map_cons, List.map_append, List.map_cons, map_not a b C haC hC, map_not a b D haD hD, map_not a b B hB hbB, swp_a, swp_b]
  · have hbB' : b ∈ B := by
      rcases List.mem_cons.1 hbB with h | h
      · exact absurd h.symm hab
      · exact h
    obtain ⟨C, D, rfl, hC, hD⟩ := split_at hbB' (List.nodup_cons.1 hn2.2.1).2
    have hbA : b ∉ A := fun e => hn2.2.2 b e b hbB rfl
    have haC : a ∉ C := fun e => hB (List.mem_append_left _ e)
    have haD : a ∉ D := fun e => hB (List.mem_append_right _ (List.mem_cons_of_mem _ e))
    unfold swapL
    have e1 : A ++ a :: (C ++ b :: D) = (A ++ a :: C) ++ b :: D := by simp
    have e2 : A ++ b :: (C ++ b :: D) = (A ++ b :: C) ++ b :: D := by simp
    have hbAC : b ∉ A ++ a :: C := fun e => by
      rcases List.mem_append.1 e with e | e
      · exact hbA e
      · rcases List.mem_cons.1 e with e | e
        · exact hab e.symm
        · exact hC e
    rw [idx_at a A _ hA, set_app, e1, idx_at b _ D hbAC, e2]
    have e3 : (A ++ a :: C).length = (A ++ b :: C).length := by simp
    rw [e3, set_app]
    rw [List.map_append, List.map_append, List.map_cons, List.map_cons, map_not a b A hA hbA, map_not a b C haC hC, map_not a b D haD hD, swp_a, swp_b]
theorem swp_twice (a b q : Int) (hab : a ≠ b) : swp2 b a (swp2 a b q) = q := by
  unfold swp2
  by_cases h1 : q = a
  · rw [if_pos h1, if_pos rfl, h1]
  · rw [if_neg h1]
    by_cases h2 : q = b
    · rw [if_pos h2, if_neg hab, if_pos rfl, h2]
    · rw [if_neg h2, if_neg h2, if_neg h1]
theorem swp_inj (a b : Int) (hab : a ≠ b) {p q : Int} (h : swp2 a b p = swp2 a b q) : p = q := by
  rw [← swp_twice a b p hab, h, swp_twice a b q hab]
theorem nodup_swp (l : List Int) (a b : Int) (hab : a ≠ b) (hn : l.Nodup) : (l.map (swp2 a b)).Nodup := by
  induction l with
  | nil => exact List.nodup_nil
  | cons q l ih =>
    obtain ⟨h1, h2⟩ := List.nodup_cons.1 hn
    rw [List.map_cons]
    refine List.nodup_cons.2 ⟨fun e => ?_, ih h2⟩
    obtain ⟨r, hr, he⟩ := List.mem_map.1 e
    rw [swp_inj a b hab he] at hr
    exact h1 hr
theorem mem_swp (l : List Int) (a b q : Int) (ha : a ∈ l) (hb : b ∈ l) (h : q ∈ l.map (swp2 a b)) : q ∈ l := by
  obtain ⟨r, hr, rfl⟩ := List.mem_map.1 h
  unfold swp2
  split
  · exact hb
  · split
    · exact ha
    · exact hr
theorem swapL_back (l : List Int) (a b : Int) (hn : l.Nodup) (ha : a ∈ l) (hb : b ∈ l) (hab : a ≠ b) : swapL (swapL l a b) b a = l := by
  rw [swapL_map l a b hn ha hb hab]
  have ha' : a ∈ l.map (swp2 a b) := List.mem_map.2 ⟨b, hb, swp_b a b⟩
  have hb' : b ∈ l.map (swp2 a b) := List.mem_map.2 ⟨a, ha, swp_a a b⟩
  rw [swapL_map _ b a (nodup_swp l a b hab hn) hb' ha' (Ne.symm hab), List.map_map]
  have : (swp2 b a ∘ swp2 a b) = id := by
    funext q
    exact swp_twice a b q hab
  rw [this, List.map_id]
/-- All go one on, or back. -/
def turnL (back : Bool) (l : List Int) : List Int := if back = true then l.drop 1 ++ l.take 1 else l.drop (l.length - 1) ++ l.take (l.length - 1)
theorem turn_len (back : Bool) (l : List Int) : (turnL back l).length = l.length := by
  unfold turnL
  split <;> simp <;> omega
theorem turn_mem (back : Bool) (l : List Int) (q : Int) : q ∈ turnL back l → q ∈ l := by
  unfold turnL
  split <;> intro h <;> rcases List.mem_append.1 h with h | h <;> first | exact List.mem_of_mem_drop h | exact List.mem_of_mem_take h
theorem turn_nodup (back : Bool) (l : List Int) (hn : l.Nodup) : (turnL back l).Nodup := by
  have h : ∀ k, (l.drop k ++ l.take k).Nodup := fun k => by
    have h2 : (l.take k ++ l.drop k).Nodup := by rw [List.take_append_drop]; exact hn
    have h3 := List.nodup_append.1 h2
    exact List.nodup_append.2 ⟨h3.2.1, h3.1, fun a ha b hb e => h3.2.2 b hb a ha e.symm⟩
  unfold turnL
  split
  · exact h _
  · exact h _
theorem turn_back (l : List Int) : turnL true (turnL false l) = l := by
  unfold turnL
  rw [if_pos rfl, if_neg (by decide)]
  cases hl : l.reverse with
  | nil =>
    have : l = [] := by simpa using hl
    rw [this]; rfl
  | cons x m =>
    have he : l = m.reverse ++ [x] := by
      have := congrArg List.reverse hl
      simpa using this
    rw [he]
    simp
end Go.Proofs.Ytplngfammfdemaa
end
section
namespace Go.Proofs.Ytplngfammfdemaa
open Q
set_option linter.unusedVariables false
set_option linter.unusedSimpArgs false
/-- A tree that may be, of a size. -/
structure RightT (t : S31) (w h : Int) : Prop where
  ok : Mk (psA t).length t w h
  nd : (psA t).Nodup
  few : (psA t).length ≤ 8
  w1 : 1 ≤ w
  w8 : w ≤ 80
  h1 : 1 ≤ h
  h5 : h ≤ 50
theorem right_of {d : Nat} {t : S31} {w h : Int} (hm : Mk d t w h) (hd : d ≤ 20) (hn : (psA t).Nodup) (hf : (psA t).length ≤ 8) (w1 : 1 ≤ w) (w8 : w ≤ 80) (h1 : 1 ≤ h) (h5 : h ≤ 50) : RightT t w h := by
  refine ⟨?_, hn, hf, w1, w8, h1, h5⟩
  rw [psA_of hm hd]
  exact mk_few d t w h hm
theorem ps_at {t : S31} {w h : Int} (hr : RightT t w h) : psR (psA t).length t = psA t := (psA_of hr.ok (by have := hr.few; omega)).symm
theorem fit_right {t : S31} {w h w2 h2 : Int} (hr : RightT t w h) (w1 : 1 ≤ w2) (w8 : w2 ≤ 80) (h1 : 1 ≤ h2) (h5 : h2 ≤ 50) (k : Nat) (hk : 8 ≤ k) (hl1 : leastR k t 1 ≤ w2) (hl2 : leastR k t 2 ≤ h2) : RightT (fitR k t w2 h2) w2 h2 ∧ psA (fitR k t w2 h2) = psA t := by
  have hf := hr.few
  obtain ⟨a, b⟩ := fit_mk (psA t).length k t w h w2 h2 hr.ok hr.w1 hr.h1 w1 w8 h1 (by omega) (by omega) hl1 hl2
  have hp : psA (fitR k t w2 h2) = psA t := b 20
  exact ⟨right_of a (by omega) (by rw [hp]; exact hr.nd) (by rw [hp]; exact hr.few) w1 w8 h1 h5, hp⟩
theorem fit_same {t : S31} {w h : Int} (hr : RightT t w h) (k : Nat) : fitR k t w h = t ∧ leastR k t 1 ≤ w ∧ leastR k t 2 ≤ h :=
  ⟨fit_id _ k t w h hr.ok hr.w1 hr.h1, least_le _ k t w h hr.ok hr.w1 hr.h1⟩
theorem kill_right {t : S31} {w h pane : Int} (hr : RightT t w h) (hp : pane ∈ psA t) (hc : 2 ≤ (psA t).length) (k : Nat) (hk : 8 ≤ k) : RightT (killR k t w h pane) w h ∧ psA (killR k t w h pane) = (psA t).erase pane := by
  have hf := hr.few
  have h0 : t.f0 ≠ 0 := fun e => by rw [psA_leaf e] at hc; simp at hc
  have h5 := hr.h5
  obtain ⟨a, b, _⟩ := kill_mk (psA t).length k t w h pane hr.ok (by omega) (by omega) hr.nd hp h0 hr.w1 hr.w8 hr.h1 (by omega)
  exact ⟨right_of a (by omega) (by rw [b]; exact hr.nd.erase _) (by rw [b, List.length_erase_of_mem hp]; omega) hr.w1 hr.w8 hr.h1 hr.h5, b⟩
theorem named_right {t : S31} {w h : Int} (hr : RightT t w h) (l : List Int) (hl : l.length = (psA t).length) (hn : l.Nodup) (hm : ∀ q ∈ l, q ∈ psA t) (k : Nat) (hk : 8 ≤ k) : RightT (namedR k t l).1 w h ∧ psA (namedR k t l).1 = l := by
  have hf := hr.few
  have hrange := ps_range _ t w h hr.ok
  rw [ps_at hr] at hrange
  obtain ⟨a, b, _⟩ := named_mk (psA t).length k t w h l hr.ok (by omega) (by rw [ps_at hr]; omega) (fun n hnl => hrange n (hm n hnl))
  rw [ps_at hr, ← hl, List.take_length] at b
  have hp : psA (namedR k t l).1 = l := by rw [psA_of a (by omega), hl.symm]; exact b
  exact ⟨right_of a (by omega) (by rw [hp]; exact hn) (by rw [hp]; omega) hr.w1 hr.w8 hr.h1 hr.h5, hp⟩
theorem named_same {t : S31} {w h : Int} (hr : RightT t w h) (k : Nat) (hk : 8 ≤ k) : (namedR k t (psA t)).1 = t := by
  have hf := hr.few
  have h2 := named_own (psA t).length k t w h [] hr.ok (by omega)
  rw [List.append_nil, ps_at hr] at h2
  rw [h2]
theorem cells_le : ∀ (d k : Nat) (t : S31) (w h pane kind : Int), Mk d t w h → 0 ≤ w → w ≤ 80 → 0 ≤ h → h ≤ 80 → 0 ≤ cellsR k t w h pane kind ∧ cellsR k t w h pane kind ≤ 80 := by
  intro d
  induction d with
  | zero => intro k t w h pane kind hm; exact hm.elim
  | succ d ih =>
    intro k t w h pane kind hm hw0 hw hh0 hh
    cases k with
    | zero => exact ⟨Int.le_refl _, by show (0 : Int) ≤ 80; omega⟩
    | succ k =>
      unfold cellsR
      by_cases h0 : t.f0 = 0
      · rw [if_pos h0]; unfold alo; split <;> omega
      · rw [if_neg h0]
        obtain ⟨_, _, _, hk, _⟩ := hm.kids h0
        have hk' : ∀ x ∈ t.f3, 0 ≤ cellsR k x (kwd t.f0 x.f2 w) (khd t.f0 x.f2 h) pane kind ∧ cellsR k x (kwd t.f0 x.f2 w) (khd t.f0 x.f2 h) pane kind ≤ 80 := fun x hx => by
          have := (hk x hx).2.1
          have := (hk x hx).2.2.1
          refine ih k x _ _ pane kind (hk x hx).2.2.2 ?_ ?_ ?_ ?_ <;> unfold kwd khd at * <;> split <;> omega
        generalize t.f3 = l at hk'
        induction l with
        | nil => exact ⟨Int.le_refl _, by show (0 : Int) ≤ 80; omega⟩
        | cons x l ih2 =>
          unfold cellsL
          split
          · exact hk' x (List.mem_cons_self ..)
          · exact ih2 (fun y hy => hk' y (List.mem_cons_of_mem _ hy))
theorem insP_len (p f : Int) (l : List Int) (hn : l.Nodup) (hp : p ∈ l) : (insP p f l).length = l.length + 1 := by
  obtain ⟨A, B, rfl, hA, hB⟩ := split_at hp hn
  rw [insP_append, show p :: B = [p] ++ B from rfl, insP_append, insP_one, insP_none p f A hA, insP_none p f B hB]
  simp
  omega
theorem insP_nodup (p f : Int) (l : List Int) (hn : l.Nodup) (hp : p ∈ l) (hf : f ∉ l) : (insP p f l).Nodup := by
  obtain ⟨A, B, rfl, hA, hB⟩ := split_at hp hn
  rw [insP_append, show p :: B = [p] ++ B from rfl, insP_append, insP_one, insP_none p f A hA, insP_none p f B hB]
  have h2 := List.nodup_append.1 hn
  have hfA : f ∉ A := fun e => hf (List.mem_append_left _ e)
  have hfB : f ∉ B := fun e => hf (List.mem_append_right _ (List.mem_cons_of_mem _ e))
  have hfp : f ≠ p := fun e => hf (List.mem_append_right _ (by rw [e]; exact List.mem_cons_self ..))
  refine List.nodup_append.2 ⟨h2.1, ?_, fun a ha b hb e => ?_⟩
  · refine List.nodup_cons.2 ⟨fun e => ?_, List.nodup_cons.2 ⟨hfB, (List.nodup_cons.1 h2.2.1).2⟩⟩
    rcases List.mem_cons.1 e with e | e
    · exact hfp e.symm
    · exact hB e
  · rcases List.mem_cons.1 hb with hb | hb
    · exact hA (by rw [← hb, ← e]; exact ha)
    · rcases List.mem_cons.1 hb with hb | hb
      · exact hfA (by rw [← hb, ← e]; exact ha)
      · exact h2.2.2 a ha b (List.mem_cons_of_mem _ hb) e
theorem split_right {t : S31} {w h pane kind fresh n : Int} (hr : RightT t w h) (hp : pane ∈ psA t) (hf : fresh ∉ psA t) (f1 : 1 ≤ fresh) (f9 : fresh ≤ 999) (hk : kind = 1 ∨ kind = 2) (h7 : (psA t).length ≤ 7) (k : Nat) (hk9 : 9 ≤ k) (hc : cellsR k t w h pane kind = n) (hn : 3 ≤ n) :
    RightT (splitR k t pane kind fresh n) w h ∧ psA (splitR k t pane kind fresh n) = insP pane fresh (psA t) ∧ killR k (splitR k t pane kind fresh n) w h fresh = t := by
  have h5 := hr.h5
  have w8 := hr.w8
  have hn8 : n ≤ 80 := by rw [← hc]; exact (cells_le _ k t w h pane kind hr.ok (by have := hr.w1; omega) hr.w8 (by have := hr.h1; omega) (by omega)).2
  obtain ⟨a, b, _, _⟩ := split_mk (psA t).length k t w h pane kind fresh n hr.ok (by omega) (by omega) hr.nd hp f1 f9 hk hn hn8 hc
  refine ⟨right_of a (by omega) (by rw [b]; exact insP_nodup _ _ _ hr.nd hp hf) (by rw [b, insP_len _ _ _ hr.nd hp]; omega) hr.w1 hr.w8 hr.h1 hr.h5, b, ?_⟩
  exact kill_split (psA t).length k k t w h pane kind fresh n hr.ok (by omega) (by omega) (by omega) hr.nd hp hf f1 f9 hk hn hn8 hc
end Go.Proofs.Ytplngfammfdemaa
end
section
namespace Go.Proofs.Ytplngfammfdemaa
open Q
set_option linter.unusedVariables false
set_option linter.unusedSimpArgs false
theorem sumF_ge (l : List S31) (h : ∀ x ∈ l, 1 ≤ x.f2) : (l.length : Int) ≤ sumF l := by
  induction l with
  | nil => exact Int.le_refl _
  | cons x l ih =>
    rw [sumF_cons, List.length_cons]
    have := h x (List.mem_cons_self ..)
    have := ih (fun y hy => h y (List.mem_cons_of_mem _ hy))
    omega
theorem mk_kids {d : Nat} {t : S31} {w h : Int} (hm : Mk d t w h) (hw : w ≤ 80) (hh : h ≤ 80) : t.f3.length ≤ 41 := by
  cases d with
  | zero => exact hm.elim
  | succ d =>
    by_cases h0 : t.f0 = 0
    · rcases hm with hm | hm
      · rw [hm.2.1]; simp
      · omega
    · obtain ⟨_, _, _, hk, hs⟩ := hm.kids h0
      have := sumF_ge t.f3 (fun x hx => (hk x hx).2.1)
      unfold alo at hs
      split at hs <;> omega
theorem kid_box {kind s w h : Int} (hs1 : 1 ≤ s) (hs8 : s ≤ 80) (w1 : 1 ≤ w) (w8 : w ≤ 80) (h1 : 1 ≤ h) (h8 : h ≤ 80) : 1 ≤ kwd kind s w ∧ kwd kind s w ≤ 80 ∧ 1 ≤ khd kind s h ∧ khd kind s h ≤ 80 := by
  unfold kwd khd; split <;> omega
end Go.Proofs.Ytplngfammfdemaa
end
