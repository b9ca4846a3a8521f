-- A copy of the text YtplngfammfdemaaTK0 with what this claim does not reach left out (prune.py, a program of this project).
import Derived.Test.YtplngfammfdemaaZyGCont
import Derived.Test.YtplngfammfdemaaZyWMore
namespace Go.Proofs.Ytplngfammfdemaa
open Go.RowKit Go.Proofs.YtplngfammfdemaaW.PrintWords Go.Proofs.YtplngfammfdemaaW.PrintLast Go.Proofs.YtplngfammfdemaaW.PrintMore Q
set_option linter.unusedVariables false
set_option linter.unusedSimpArgs false
/-- The cells of a tree, from cell 4 * j on. -/
structure TreeAt (w : World) (ok : Nat → Prop) (cells : Array Value) (j : Nat) (x : S31) : Prop where
  c0 : cells[4 * j]? = some (.int .i64 x.f0)
  c1 : cells[4 * j + 1]? = some (.int .i64 x.f1)
  c2 : cells[4 * j + 2]? = some (.int .i64 x.f2)
  c3 : ∃ A c, cells[4 * j + 3]? = some (.slice A x.f3.length c) ∧ x.f3.length ≤ c ∧ Kd.F k31 w ok A x.f3.length x.f3
/-- A row of trees lies in block g; what they lead to is in ok, and not this block. -/
structure KidsAt (w : World) (ok : Nat → Prop) (g : Nat) (cells : Array Value) (xs : List S31) : Prop where
  blk : w.heap[g]? = some (.cells cells 31 (0, 0))
  at_ : ∀ (j : Nat) (x : S31), xs[j]? = some x → TreeAt w ok cells j x
  few : xs.length ≤ 1000000
  apart : ∀ k, ok k → k ≠ g
section
variable {w w1 : World} {ok ok' : Nat → Prop} {base g cap j : Nat} {cells : Array Value} {xs : List S31} {x : S31} {v : Value}
theorem TreeAt.step (h : TreeAt w ok cells j x) (hF : ∀ A, Kd.F k31 w ok A x.f3.length x.f3 → Kd.F k31 w1 ok' A x.f3.length x.f3) : TreeAt w1 ok' cells j x := by
  obtain ⟨A, c, h1, h2, h3⟩ := h.c3
  exact ⟨h.c0, h.c1, h.c2, A, c, h1, h2, hF A h3⟩
theorem KidsAt.below (h : KidsAt w ok g cells xs) (hb : Below w.heap.size w w1) : KidsAt w1 ok g cells xs :=
  ⟨blk_below h.blk hb, fun j x hj => (h.at_ j x hj).step (fun A hF => Kd.F_below hF hb), h.few, h.apart⟩
theorem KidsAt.drew (h : KidsAt w ok g cells xs) : KidsAt w.drew ok g cells xs := h.below (below_drew (Below.refl _ _))
theorem KidsAt.drewN (h : KidsAt w ok g cells xs) (n : Nat) : KidsAt (w.drewN n) ok g cells xs := h.below (pw_below_drewN (Below.refl _ _) n)
theorem KidsAt.alloc (h : KidsAt w ok g cells xs) (o : Obj) : KidsAt (w.alloc o) ok g cells xs := h.below (below_alloc (Below.refl _ _) o)
theorem KidsAt.far (h : KidsAt w ok g cells xs) {p : Addr} (hg : p.block ≠ g) (hp : ∀ k, ok k → k ≠ p.block) (u : Value) : KidsAt (w.setCell p u) ok g cells xs :=
  ⟨(Below.heap_setCell w _ _ g (Ne.symm hg)).trans h.blk, fun j x hj => (h.at_ j x hj).step (fun A hF => Kd.F_far hF hp u), h.few, h.apart⟩
theorem KidsAt.mono (h : KidsAt w ok g cells xs) (hok : ∀ k, ok k → ok' k) (ha : ∀ k, ok' k → k ≠ g) : KidsAt w ok' g cells xs :=
  ⟨h.blk, fun j x hj => (h.at_ j x hj).step (fun A hF => Kd.F_mono hF hok), h.few, ha⟩
/-- .. as a row that is only read. -/
theorem KidsAt.V (h : KidsAt w ok g cells xs) (hc : xs.length ≤ cap) (hg : ok' g) (hok : ∀ k, ok k → ok' k) : Kd.V k31 31 w base ok' (.slice (some ⟨g, 0, none⟩) xs.length cap) xs := by
  refine ⟨some ⟨g, 0, none⟩, cap, rfl, hc, fun W' hW => ?_⟩
  have hb : W'.heap[g]? = some (.cells cells 31 (0, 0)) := (hW g hg (blk_lt h.blk)).trans h.blk
  refine ⟨rfl, by have := h.few; omega, fun _ => ⟨_, rfl, fun j x hj => ?_⟩⟩
  have hx := h.at_ j x hj
  obtain ⟨A, c, h1, h2, h3⟩ := hx.c3
  refine ⟨[.int .i64 x.f0, .int .i64 x.f1, .int .i64 x.f2, .slice A x.f3.length c], rfl, k31_mk W' x h2 (h3 W' (fun k hk hlt => hW k (hok k hk) hlt)), fun i u hu => ?_⟩
  have hsz : k31.sz = 4 := rfl
  have ha : ∀ q u', cells[4 * j + q]? = some u' → W'.cell? ((⟨g, 0, none⟩ : Addr).add (j * k31.sz + q)) = some u' := fun q u' hq => by
    rw [hsz, Addr.add_lit]
    have := (blk_cell hb (4 * j + q)).trans hq
    rw [show 0 + (j * 4 + q) = 4 * j + q by omega]
    exact this
  match i, hu with
  | 0, hu => simp only [List.getElem?_cons_zero, Option.some.injEq] at hu; subst hu; exact ha 0 _ hx.c0
  | 1, hu => simp only [List.getElem?_cons_succ, List.getElem?_cons_zero, Option.some.injEq] at hu; subst hu; exact ha 1 _ hx.c1
  | 2, hu => simp only [List.getElem?_cons_succ, List.getElem?_cons_zero, Option.some.injEq] at hu; subst hu; exact ha 2 _ hx.c2
  | 3, hu => simp only [List.getElem?_cons_succ, List.getElem?_cons_zero, Option.some.injEq] at hu; subst hu; exact ha 3 _ h1
  | i + 4, hu => simp at hu
/-- What its cells hold. -/
theorem KidsAt.cell (h : KidsAt w ok g cells xs) (hj : xs[j]? = some x) : w.cell? ⟨g, 4 * j, none⟩ = some (.int .i64 x.f0) ∧ w.cell? ⟨g, 4 * j + 1, none⟩ = some (.int .i64 x.f1) ∧ w.cell? ⟨g, 4 * j + 2, none⟩ = some (.int .i64 x.f2) ∧
    ∃ A c, w.cell? ⟨g, 4 * j + 3, none⟩ = some (.slice A x.f3.length c) ∧ x.f3.length ≤ c ∧ Kd.F k31 w ok A x.f3.length x.f3 := by
  have hx := h.at_ j x hj
  obtain ⟨A, c, h1, h2, h3⟩ := hx.c3
  exact ⟨(blk_cell h.blk _).trans hx.c0, (blk_cell h.blk _).trans hx.c1, (blk_cell h.blk _).trans hx.c2, A, c, (blk_cell h.blk _).trans h1, h2, h3⟩
theorem KidsAt.frozen (h : KidsAt w ok g cells xs) (i : Nat) : w.frozen? ⟨g, i, none⟩ = false := blk_frozen h.blk i
theorem set_ne (cells : Array Value) (i i' : Nat) (u : Value) (h : i ≠ i') : (cells.setIfInBounds i u)[i']? = cells[i']? := Array.getElem?_setIfInBounds_ne h
theorem set_eq (cells : Array Value) (i : Nat) (u : Value) (h : (cells[i]?).isSome) : (cells.setIfInBounds i u)[i]? = some u := by
  have hi : i < cells.size := by
    cases h9 : cells[i]? with
    | none => rw [h9] at h; cases h
    | some _ => exact (Array.getElem?_eq_some_iff.1 h9).1
  rw [Array.getElem?_setIfInBounds_self_of_lt hi]
/-- A tree's size, written. -/
theorem KidsAt.size (h : KidsAt w ok g cells xs) (hj : xs[j]? = some x) (s : Int) :
    KidsAt (w.setCell ⟨g, 4 * j + 2, none⟩ (.int .i64 s)) ok g (cells.setIfInBounds (4 * j + 2) (.int .i64 s)) (xs.set j ⟨x.f0, x.f1, s, x.f3⟩) := by
  have hjl : j < xs.length := (List.getElem?_eq_some_iff.1 hj).1
  have hF : ∀ A n ys, Kd.F k31 w ok A n ys → Kd.F k31 (w.setCell ⟨g, 4 * j + 2, none⟩ (.int .i64 s)) ok A n ys := fun A n ys hF => Kd.F_far hF (fun k hk => h.apart k hk) _
  refine ⟨blk_put h.blk _ _ rfl, fun i y hi => ?_, by rw [List.length_set]; exact h.few, h.apart⟩
  by_cases e : i = j
  · subst e
    rw [List.getElem?_set_self hjl] at hi
    simp only [Option.some.injEq] at hi
    subst hi
    have hx := h.at_ i x hj
    obtain ⟨A, c, h1, h2, h3⟩ := hx.c3
    exact ⟨by rw [set_ne _ _ _ _ (by omega)]; exact hx.c0, by rw [set_ne _ _ _ _ (by omega)]; exact hx.c1, set_eq _ _ _ (by rw [hx.c2]; rfl), A, c, by rw [set_ne _ _ _ _ (by omega)]; exact h1, h2, hF _ _ _ h3⟩
  · rw [List.getElem?_set_ne (Ne.symm e)] at hi
    have hx := h.at_ i y hi
    obtain ⟨A, c, h1, h2, h3⟩ := hx.c3
    exact ⟨by rw [set_ne _ _ _ _ (by omega)]; exact hx.c0, by rw [set_ne _ _ _ _ (by omega)]; exact hx.c1, by rw [set_ne _ _ _ _ (by omega)]; exact hx.c2, A, c, by rw [set_ne _ _ _ _ (by omega)]; exact h1, h2, hF _ _ _ h3⟩
/-- A tree, written. -/
theorem KidsAt.put (h : KidsAt w ok g cells xs) (hj : j < xs.length) (y : S31) {A : Option Addr} {c : Nat} (hy : y.f3.length ≤ c) (hFy : Kd.F k31 w ok A y.f3.length y.f3) :
    KidsAt ((((w.setCell ⟨g, 4 * j, none⟩ (.int .i64 y.f0)).setCell ⟨g, 4 * j + 1, none⟩ (.int .i64 y.f1)).setCell ⟨g, 4 * j + 2, none⟩ (.int .i64 y.f2)).setCell ⟨g, 4 * j + 3, none⟩ (.slice A y.f3.length c)) ok g
      ((((cells.setIfInBounds (4 * j) (.int .i64 y.f0)).setIfInBounds (4 * j + 1) (.int .i64 y.f1)).setIfInBounds (4 * j + 2) (.int .i64 y.f2)).setIfInBounds (4 * j + 3) (.slice A y.f3.length c)) (xs.set j y) := by
  have hx := h.at_ j _ (List.getElem?_eq_getElem hj)
  have hF : ∀ A' n ys, Kd.F k31 w ok A' n ys → Kd.F k31 ((((w.setCell ⟨g, 4 * j, none⟩ (.int .i64 y.f0)).setCell ⟨g, 4 * j + 1, none⟩ (.int .i64 y.f1)).setCell ⟨g, 4 * j + 2, none⟩ (.int .i64 y.f2)).setCell ⟨g, 4 * j + 3, none⟩ (.slice A y.f3.length c)) ok A' n ys := fun A' n ys hF =>
    Kd.F_far (p := ⟨g, 4 * j + 3, none⟩) (Kd.F_far (p := ⟨g, 4 * j + 2, none⟩) (Kd.F_far (p := ⟨g, 4 * j + 1, none⟩) (Kd.F_far (p := ⟨g, 4 * j, none⟩) hF (fun k hk => h.apart k hk) _) (fun k hk => h.apart k hk) _) (fun k hk => h.apart k hk) _) (fun k hk => h.apart k hk) _
  refine ⟨blk_put (blk_put (blk_put (blk_put h.blk _ _ rfl) _ _ rfl) _ _ rfl) _ _ rfl, fun i z hi => ?_, by rw [List.length_set]; exact h.few, h.apart⟩
  by_cases e : i = j
  · subst e
    rw [List.getElem?_set_self hj] at hi
    simp only [Option.some.injEq] at hi
    subst hi
    obtain ⟨A0, c0, q1, q2, q3⟩ := hx.c3
    refine ⟨?_, ?_, ?_, A, c, ?_, hy, hF _ _ _ hFy⟩
    · rw [set_ne _ _ _ _ (by omega), set_ne _ _ _ _ (by omega), set_ne _ _ _ _ (by omega)]; exact set_eq _ _ _ (by rw [hx.c0]; rfl)
    · rw [set_ne _ _ _ _ (by omega), set_ne _ _ _ _ (by omega)]; exact set_eq _ _ _ (by rw [set_ne _ _ _ _ (by omega), hx.c1]; rfl)
    · rw [set_ne _ _ _ _ (by omega)]; exact set_eq _ _ _ (by rw [set_ne _ _ _ _ (by omega), set_ne _ _ _ _ (by omega), hx.c2]; rfl)
    · exact set_eq _ _ _ (by rw [set_ne _ _ _ _ (by omega), set_ne _ _ _ _ (by omega), set_ne _ _ _ _ (by omega), q1]; rfl)
  · rw [List.getElem?_set_ne (Ne.symm e)] at hi
    have hz := h.at_ i z hi
    obtain ⟨A0, c0, q1, q2, q3⟩ := hz.c3
    refine ⟨?_, ?_, ?_, A0, c0, ?_, q2, hF _ _ _ q3⟩
    · rw [set_ne _ _ _ _ (by omega), set_ne _ _ _ _ (by omega), set_ne _ _ _ _ (by omega), set_ne _ _ _ _ (by omega)]; exact hz.c0
    · rw [set_ne _ _ _ _ (by omega), set_ne _ _ _ _ (by omega), set_ne _ _ _ _ (by omega), set_ne _ _ _ _ (by omega)]; exact hz.c1
    · rw [set_ne _ _ _ _ (by omega), set_ne _ _ _ _ (by omega), set_ne _ _ _ _ (by omega), set_ne _ _ _ _ (by omega)]; exact hz.c2
    · rw [set_ne _ _ _ _ (by omega), set_ne _ _ _ _ (by omega), set_ne _ _ _ _ (by omega), set_ne _ _ _ _ (by omega)]; exact q1
end
theorem k31_openF' {W : World} {ok : Nat → Prop} {x : S31} {cs : List Value} (h : Kd.FK k31 W ok x cs) : ∃ A c, cs = [.int .i64 x.f0, .int .i64 x.f1, .int .i64 x.f2, .slice A x.f3.length c] ∧ x.f3.length ≤ c ∧ Kd.F k31 W ok A x.f3.length x.f3 := by
  obtain ⟨A, c, rfl, hl, _⟩ := k31_open (Kd.FK_now h)
  refine ⟨A, c, rfl, hl, fun W' hW => ?_⟩
  obtain ⟨A', c', he, hl', hC⟩ := k31_open (h W' hW)
  have h3 := congrArg (fun l => l[3]?) he
  simp only [List.getElem?_cons_succ, List.getElem?_cons_zero, Option.some.injEq, Value.slice.injEq] at h3
  rw [h3.1]
  exact hC
end Go.Proofs.Ytplngfammfdemaa
