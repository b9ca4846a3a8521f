-- Copies of the texts YtplngfammfdemaaTK1, YtplngfammfdemaaTK2, YtplngfammfdemaaTK3, YtplngfammfdemaaTK4, YtplngfammfdemaaU0, YtplngfammfdemaaUClone, YtplngfammfdemaaUAt, YtplngfammfdemaaUFitW with what this claim does not reach left out (prune.py, a program of this project).
import Derived.Test.YtplngfammfdemaaZyTK0
import Derived.Laws.CopyOwn
import Derived.Deep.RegionLaw
import Derived.Test.YtplngfammfdemaaZyGCopy
section
namespace Go.Proofs.Ytplngfammfdemaa
open Go.RowKit Go.Proofs.YtplngfammfdemaaW.PrintWords Go.Proofs.YtplngfammfdemaaW.PrintLast Go.Proofs.YtplngfammfdemaaW.PrintMore Q
set_option linter.unusedVariables false
set_option linter.unusedSimpArgs false
/-- Rows of four values. -/
def Four (l : List (List Value)) : Prop := ∀ r ∈ l, r.length = 4
theorem Four.append {a b : List (List Value)} (ha : Four a) (hb : Four b) : Four (a ++ b) := fun r hr => (List.mem_append.1 hr).elim (ha r) (hb r)
theorem Four.take {a : List (List Value)} (ha : Four a) (i : Nat) : Four (a.take i) := fun r hr => ha r (List.mem_of_mem_take hr)
theorem Four.drop {a : List (List Value)} (ha : Four a) (i : Nat) : Four (a.drop i) := fun r hr => ha r (List.mem_of_mem_drop hr)
theorem Four.cons {a : List (List Value)} {r : List Value} (hr : r.length = 4) (ha : Four a) : Four (r :: a) := fun q hq => (List.mem_cons.1 hq).elim (fun e => e ▸ hr) (ha q)
theorem Four.tail {a : List (List Value)} {r : List Value} (h : Four (r :: a)) : Four a := fun q hq => h q (List.mem_cons_of_mem _ hq)
theorem flat4_len : ∀ (l : List (List Value)), Four l → l.flatten.length = l.length * 4
  | [], _ => rfl
  | r :: l, h => by rw [List.flatten_cons, List.length_append, h r (List.mem_cons_self ..), flat4_len l h.tail, List.length_cons]; omega
theorem flat4_take (l : List (List Value)) (h : Four l) (i : Nat) : l.flatten.take (i * 4) = (l.take i).flatten := by
  by_cases hi : i ≤ l.length
  · have e : l.flatten = (l.take i).flatten ++ (l.drop i).flatten := by rw [← List.flatten_append, List.take_append_drop]
    rw [e, List.take_left' (by rw [flat4_len _ (h.take i), List.length_take]; omega)]
  · rw [List.take_of_length_le (by rw [flat4_len _ h]; omega), List.take_of_length_le (by omega)]
theorem flat4_drop (l : List (List Value)) (h : Four l) (i : Nat) : l.flatten.drop (i * 4) = (l.drop i).flatten := by
  by_cases hi : i ≤ l.length
  · have e : l.flatten = (l.take i).flatten ++ (l.drop i).flatten := by rw [← List.flatten_append, List.take_append_drop]
    rw [e, List.drop_left' (by rw [flat4_len _ (h.take i), List.length_take]; omega)]
  · rw [List.drop_of_length_le (by rw [flat4_len _ h]; omega), List.drop_of_length_le (by omega)]; rfl
theorem flat4_at (l : List (List Value)) (h : Four l) (j q : Nat) (hq : q < 4) (r : List Value) (hj : l[j]? = some r) : l.flatten[4 * j + q]? = r[q]? := by
  have hr : r.length = 4 := h r (List.mem_of_getElem? hj)
  have h1 : (l.flatten.drop (j * 4))[q]? = r[q]? := by
    rw [flat4_drop l h, List.drop_eq_getElem_cons (List.getElem?_eq_some_iff.1 hj).1, (List.getElem?_eq_some_iff.1 hj).2, List.flatten_cons, List.getElem?_append_left (by omega)]
  rw [List.getElem?_drop] at h1
  rw [← h1, Nat.mul_comm]
/-- What Delete of one leaves. -/
theorem splice4_delete (L : List Value) (l : List (List Value)) (hf : Four l) (m i c : Nat) (hn : l.length = m + 1) (hi : i < m + 1) (hL : L.length = c * 4) (hc : m + 1 ≤ c) (ht : L.take ((m + 1) * 4) = l.flatten) (zs : List Value) (hz : zs.length = 4) :
    (splice (splice L (i * 4) (l.drop (i + 1)).flatten) (m * 4) zs).take (m * 4) = (l.take i ++ l.drop (i + 1)).flatten := by
  have hd : (l.drop (i + 1)).flatten.length = (m - i) * 4 := by rw [flat4_len _ (hf.drop _), List.length_drop, hn]; congr 1; omega
  have h1 : (splice L (i * 4) (l.drop (i + 1)).flatten).length = c * 4 := by rw [length_splice _ _ _ (by rw [hd]; omega), hL]
  have e1 : ∀ (A B C : List Value) (k : Nat), A.length = k → (A ++ (B ++ C)).take k = A := by intro A B C k h; rw [List.take_left' h]
  unfold splice at h1 ⊢
  rw [e1 _ _ _ _ (by rw [List.length_take, h1]; omega)]
  rw [← List.append_assoc, List.take_left' (by rw [List.length_append, List.length_take, hd, hL]; omega)]
  have e2 : L.take (i * 4) = (l.take i).flatten := by
    rw [← flat4_take l hf, ← ht, List.take_take]
    congr 1
    omega
  rw [e2, ← List.flatten_append]
/-- What Insert of one leaves, in place. -/
theorem splice4_insert (L : List Value) (l : List (List Value)) (hf : Four l) (x : List Value) (hs : x.length = 4) (n i c : Nat) (hn : l.length = n) (hi : i ≤ n) (hL : L.length = c * 4) (hc : n + 1 ≤ c) (ht : L.take (n * 4) = l.flatten) :
    (splice (splice L ((i + 1) * 4) (l.drop i).flatten) (i * 4) x).take ((n + 1) * 4) = (l.take i ++ x :: l.drop i).flatten := by
  have hd : (l.drop i).flatten.length = (n - i) * 4 := by rw [flat4_len _ (hf.drop _), List.length_drop, hn]
  have h1 : (splice L ((i + 1) * 4) (l.drop i).flatten).length = c * 4 := by rw [length_splice _ _ _ (by rw [hd]; omega), hL]
  have e2 : L.take (i * 4) = (l.take i).flatten := by
    rw [← flat4_take l hf, ← ht, List.take_take]
    congr 1
    omega
  have e3 : (splice L ((i + 1) * 4) (l.drop i).flatten).take (i * 4) = (l.take i).flatten := by
    unfold splice
    rw [List.take_append_of_le_length (by rw [List.length_take, hL]; omega), List.take_take, ← e2]
    congr 1
    omega
  have e4 : (splice L ((i + 1) * 4) (l.drop i).flatten).drop (i * 4 + x.length) = (l.drop i).flatten ++ L.drop ((i + 1) * 4 + (l.drop i).flatten.length) := by
    unfold splice
    rw [hs, show i * 4 + 4 = (i + 1) * 4 by omega, List.drop_left' (by rw [List.length_take, hL]; omega)]
  rw [show splice (splice L ((i + 1) * 4) (l.drop i).flatten) (i * 4) x = (splice L ((i + 1) * 4) (l.drop i).flatten).take (i * 4) ++ (x ++ (splice L ((i + 1) * 4) (l.drop i).flatten).drop (i * 4 + x.length)) from rfl, e3, e4]
  rw [List.flatten_append, List.flatten_cons, ← List.append_assoc, ← List.append_assoc]
  rw [List.take_left' (by rw [List.length_append, List.length_append, flat4_len _ (hf.take _), List.length_take, hs, hd, hn]; omega)]
  rw [List.append_assoc]
/-- One row that holds a tree. -/
structure TreeRow (w : World) (ok : Nat → Prop) (r : List Value) (x : S31) : Prop where
  row : ∃ A c, r = [.int .i64 x.f0, .int .i64 x.f1, .int .i64 x.f2, .slice A x.f3.length c] ∧ x.f3.length ≤ c ∧ Kd.F k31 w ok A x.f3.length x.f3
/-- Rows that hold trees. -/
structure TreeRows (w : World) (ok : Nat → Prop) (rows : List (List Value)) (xs : List S31) : Prop where
  len : rows.length = xs.length
  at_ : ∀ (j : Nat) (r : List Value) (x : S31), rows[j]? = some r → xs[j]? = some x → TreeRow w ok r x
section
variable {w w1 : World} {ok ok' : Nat → Prop} {g : Nat} {cells : Array Value} {xs ys : List S31} {rows rows2 : List (List Value)} {x : S31} {r : List Value}
theorem TreeRow.four (h : TreeRow w ok r x) : r.length = 4 := by obtain ⟨A, c, rfl, _, _⟩ := h.row; rfl
theorem TreeRow.one (h : TreeRow w ok r x) : ∀ v ∈ r, v.oneCell' = true := by
  obtain ⟨A, c, rfl, _, _⟩ := h.row
  intro v hv
  simp only [List.mem_cons, List.not_mem_nil, or_false] at hv
  rcases hv with rfl | rfl | rfl | rfl <;> rfl
theorem TreeRow.step (h : TreeRow w ok r x) (hF : ∀ A, Kd.F k31 w ok A x.f3.length x.f3 → Kd.F k31 w1 ok' A x.f3.length x.f3) : TreeRow w1 ok' r x := by
  obtain ⟨A, c, h1, h2, h3⟩ := h.row
  exact ⟨A, c, h1, h2, hF A h3⟩
theorem TreeRows.step (h : TreeRows w ok rows xs) (hF : ∀ A ys, Kd.F k31 w ok A ys.length ys → Kd.F k31 w1 ok' A ys.length ys) : TreeRows w1 ok' rows xs :=
  ⟨h.len, fun j r x hr hx => (h.at_ j r x hr hx).step (fun A => hF A x.f3)⟩
theorem TreeRows.below (h : TreeRows w ok rows xs) (hb : Below w.heap.size w w1) : TreeRows w1 ok rows xs := h.step (fun A ys hF => Kd.F_below hF hb)
theorem TreeRows.mem (h : TreeRows w ok rows xs) (hr : r ∈ rows) : ∃ x, TreeRow w ok r x := by
  obtain ⟨j, hj, rfl⟩ := List.getElem_of_mem hr
  exact ⟨xs[j]'(by rw [← h.len]; exact hj), h.at_ j _ _ (List.getElem?_eq_getElem hj) (List.getElem?_eq_getElem _)⟩
theorem TreeRows.four (h : TreeRows w ok rows xs) : Four rows := fun r hr => by obtain ⟨x, hx⟩ := h.mem hr; exact hx.four
theorem TreeRows.one (h : TreeRows w ok rows xs) : ∀ v ∈ rows.flatten, v.oneCell' = true := fun v hv => by
  obtain ⟨r, hr, hv⟩ := List.mem_flatten.1 hv
  obtain ⟨x, hx⟩ := h.mem hr
  exact hx.one v hv
theorem TreeRows.nil : TreeRows w ok [] [] := ⟨rfl, fun j r x hr _ => by cases hr⟩
theorem TreeRows.append (h : TreeRows w ok rows xs) (k : TreeRows w ok rows2 ys) : TreeRows w ok (rows ++ rows2) (xs ++ ys) := by
  refine ⟨by rw [List.length_append, List.length_append, h.len, k.len], fun j r x hr hx => ?_⟩
  by_cases hj : j < rows.length
  · rw [List.getElem?_append_left hj] at hr
    rw [List.getElem?_append_left (by rw [← h.len]; exact hj)] at hx
    exact h.at_ j r x hr hx
  · rw [List.getElem?_append_right (by omega)] at hr
    rw [List.getElem?_append_right (by rw [← h.len]; omega), ← h.len] at hx
    exact k.at_ _ r x hr hx
theorem TreeRows.cons (hr : TreeRow w ok r x) (h : TreeRows w ok rows xs) : TreeRows w ok (r :: rows) (x :: xs) := by
  refine ⟨by rw [List.length_cons, List.length_cons, h.len], fun j q y hq hy => ?_⟩
  cases j with
  | zero =>
    simp only [List.getElem?_cons_zero, Option.some.injEq] at hq hy
    subst hq; subst hy; exact hr
  | succ j =>
    simp only [List.getElem?_cons_succ] at hq hy
    exact h.at_ j q y hq hy
theorem TreeRows.take (h : TreeRows w ok rows xs) (i : Nat) : TreeRows w ok (rows.take i) (xs.take i) := by
  refine ⟨by rw [List.length_take, List.length_take, h.len], fun j r x hr hx => ?_⟩
  by_cases hj : j < i
  · rw [List.getElem?_take_of_lt hj] at hr hx
    exact h.at_ j r x hr hx
  · rw [List.getElem?_take, if_neg hj] at hr; cases hr
theorem TreeRows.drop (h : TreeRows w ok rows xs) (i : Nat) : TreeRows w ok (rows.drop i) (xs.drop i) := by
  refine ⟨by rw [List.length_drop, List.length_drop, h.len], fun j r x hr hx => ?_⟩
  rw [List.getElem?_drop] at hr hx
  exact h.at_ _ r x hr hx
/-- Its rows. -/
theorem KidsAt.toRows (h : KidsAt w ok g cells xs) : ∃ rows, cells.toList.take (xs.length * 4) = rows.flatten ∧ TreeRows w ok rows xs := by
  have key : ∀ (n : Nat) (hn : n ≤ xs.length), ∃ rows, cells.toList.take (n * 4) = rows.flatten ∧ TreeRows w ok rows (xs.take n) := by
    intro n
    induction n with
    | zero => intro _; exact ⟨[], by simp, by simpa using TreeRows.nil⟩
    | succ n ih =>
      intro hn
      obtain ⟨rows, h1, h2⟩ := ih (by omega)
      obtain ⟨x, hx⟩ : ∃ x, xs[n]? = some x := ⟨_, List.getElem?_eq_getElem (by omega)⟩
      have ha := h.at_ n x hx
      obtain ⟨A, c, q3, q4, q5⟩ := ha.c3
      refine ⟨rows ++ [[.int .i64 x.f0, .int .i64 x.f1, .int .i64 x.f2, .slice A x.f3.length c]], ?_, ?_⟩
      · rw [List.flatten_append, ← h1, List.flatten_cons, List.flatten_nil, List.append_nil, show (n + 1) * 4 = n * 4 + 1 + 1 + 1 + 1 by omega]
        have e : ∀ (q : Nat) (u : Value), cells[4 * n + q]? = some u → cells.toList[n * 4 + q]? = some u := fun q u hq => by rw [Array.getElem?_toList, Nat.mul_comm]; exact hq
        rw [List.take_add_one, List.take_add_one, List.take_add_one, List.take_add_one, show cells.toList[n * 4]? = _ from e 0 _ ha.c0, e 1 _ ha.c1, e 2 _ ha.c2, e 3 _ q3]
        simp
      · rw [List.take_add_one, hx]
        exact h2.append (TreeRows.cons ⟨A, c, rfl, q4, q5⟩ TreeRows.nil)
  obtain ⟨rows, h1, h2⟩ := key xs.length (Nat.le_refl _)
  rw [List.take_length] at h2
  exact ⟨rows, h1, h2⟩
theorem KidsAt.of_rows (hb : w.heap[g]? = some (.cells cells 31 (0, 0))) (ht : cells.toList.take (xs.length * 4) = rows.flatten) (h : TreeRows w ok rows xs) (hf : xs.length ≤ 1000000) (ha : ∀ k, ok k → k ≠ g) : KidsAt w ok g cells xs := by
  refine ⟨hb, fun j x hx => ?_, hf, ha⟩
  have hjl : j < xs.length := (List.getElem?_eq_some_iff.1 hx).1
  obtain ⟨r, hr⟩ : ∃ r, rows[j]? = some r := ⟨_, List.getElem?_eq_getElem (by rw [h.len]; exact hjl)⟩
  obtain ⟨A, c, rfl, h2, h3⟩ := (h.at_ j r x hr hx).row
  have e : ∀ (q : Nat) (u : Value), q < 4 → ([.int .i64 x.f0, .int .i64 x.f1, .int .i64 x.f2, .slice A x.f3.length c] : List Value)[q]? = some u → cells[4 * j + q]? = some u := fun q u hq hu => by
    rw [← Array.getElem?_toList, ← List.getElem?_take_of_lt (show 4 * j + q < xs.length * 4 by omega), ht, flat4_at rows h.four j q hq _ hr]
    exact hu
  exact ⟨e 0 _ (by omega) rfl, e 1 _ (by omega) rfl, e 2 _ (by omega) rfl, A, c, e 3 _ (by omega) rfl, h2, h3⟩
end
end Go.Proofs.Ytplngfammfdemaa
end
section
namespace Go.Proofs.Ytplngfammfdemaa
open Go.RowKit Q
set_option linter.unusedVariables false
set_option linter.unusedSimpArgs false
theorem take_head4 (L : List Value) (l : List (List Value)) (hf : Four l) (n i : Nat) (hn : l.length = n) (hi : i ≤ n) (ht : L.take (n * 4) = l.flatten) : L.take (i * 4) = (l.take i).flatten := by
  rw [← flat4_take l hf, ← ht, List.take_take]
  congr 1
  omega
/-- Between two cuts, in place: what is behind is moved first. -/
theorem splice4_put (L : List Value) (l v : List (List Value)) (hf : Four l) (hv : Four v) (n i j c : Nat) (hn : l.length = n) (hi : i ≤ n) (hj : j ≤ n) (hL : L.length = c * 4) (hc : i + v.length + (n - j) ≤ c) (ht : L.take (n * 4) = l.flatten) :
    (splice (splice L ((i + v.length) * 4) (l.drop j).flatten) (i * 4) v.flatten).take ((i + v.length + (n - j)) * 4) = (l.take i ++ (v ++ l.drop j)).flatten := by
  have hd : (l.drop j).flatten.length = (n - j) * 4 := by rw [flat4_len _ (hf.drop _), List.length_drop, hn]
  have hw : v.flatten.length = v.length * 4 := flat4_len _ hv
  have e2 := take_head4 L l hf n i hn hi ht
  have e3 : (splice L ((i + v.length) * 4) (l.drop j).flatten).take (i * 4) = (l.take i).flatten := by
    unfold splice
    rw [List.take_append_of_le_length (by rw [List.length_take, hL]; omega), List.take_take, ← e2]
    congr 1
    omega
  have e4 : (splice L ((i + v.length) * 4) (l.drop j).flatten).drop (i * 4 + v.flatten.length) = (l.drop j).flatten ++ L.drop ((i + v.length) * 4 + (l.drop j).flatten.length) := by
    unfold splice
    rw [hw, show i * 4 + v.length * 4 = (i + v.length) * 4 by omega, List.drop_left' (by rw [List.length_take, hL]; omega)]
  rw [show splice (splice L ((i + v.length) * 4) (l.drop j).flatten) (i * 4) v.flatten = (splice L ((i + v.length) * 4) (l.drop j).flatten).take (i * 4) ++ (v.flatten ++ (splice L ((i + v.length) * 4) (l.drop j).flatten).drop (i * 4 + v.flatten.length)) from rfl, e3, e4]
  rw [List.flatten_append, List.flatten_append, ← List.append_assoc v.flatten, ← List.append_assoc, List.take_left' (by rw [List.length_append, List.length_append, flat4_len _ (hf.take _), List.length_take, hw, hd, hn]; omega)]
/-- In a new row, whose first rows are those ahead of the cut: what comes in is copied first. -/
theorem splice4_new (L : List Value) (l v : List (List Value)) (hf : Four l) (hv : Four v) (n i j c : Nat) (hn : l.length = n) (hi : i ≤ n) (hj : j ≤ n) (hL : L.length = c * 4) (hc : i + v.length + (n - j) ≤ c) (ht : L.take (i * 4) = (l.take i).flatten) :
    (splice (splice L (i * 4) v.flatten) ((i + v.length) * 4) (l.drop j).flatten).take ((i + v.length + (n - j)) * 4) = (l.take i ++ (v ++ l.drop j)).flatten := by
  have hd : (l.drop j).flatten.length = (n - j) * 4 := by rw [flat4_len _ (hf.drop _), List.length_drop, hn]
  have hw : v.flatten.length = v.length * 4 := flat4_len _ hv
  have e3 : (splice L (i * 4) v.flatten).take ((i + v.length) * 4) = (l.take i ++ v).flatten := by
    unfold splice
    rw [ht, List.flatten_append, ← List.append_assoc, List.take_left' (by rw [List.length_append, flat4_len _ (hf.take _), List.length_take, hw, hn]; omega)]
  rw [show splice (splice L (i * 4) v.flatten) ((i + v.length) * 4) (l.drop j).flatten = (splice L (i * 4) v.flatten).take ((i + v.length) * 4) ++ ((l.drop j).flatten ++ (splice L (i * 4) v.flatten).drop ((i + v.length) * 4 + (l.drop j).flatten.length)) from rfl, e3]
  rw [← List.append_assoc, List.take_left' (by rw [List.length_append, List.flatten_append, List.length_append, flat4_len _ (hf.take _), List.length_take, hw, hd, hn]; omega)]
  rw [List.flatten_append, List.flatten_append, List.flatten_append, List.append_assoc]
section
variable {w : World} {ok : Nat → Prop} {g c : Nat} {L : List Value} {xs ys : List S31} {rows v : List (List Value)} {i j : Nat}
/-- The row that slices.Replace (and Insert) leaves. -/
theorem TreeRows.put (h : TreeRows w ok rows xs) (k : TreeRows w ok v ys) (i j : Nat) : TreeRows w ok (rows.take i ++ (v ++ rows.drop j)) (xs.take i ++ (ys ++ xs.drop j)) := (h.take i).append (k.append (h.drop j))
theorem put_len (xs ys : List S31) (i j : Nat) (hi : i ≤ xs.length) (hj : j ≤ xs.length) : (xs.take i ++ (ys ++ xs.drop j)).length = i + ys.length + (xs.length - j) := by
  rw [List.length_append, List.length_append, List.length_take, List.length_drop]; omega
end
end Go.Proofs.Ytplngfammfdemaa
end
section
namespace Go.Proofs.Ytplngfammfdemaa
open Go.RowKit Go.Proofs.YtplngfammfdemaaW.PrintWords Go.Proofs.YtplngfammfdemaaW.PrintLast Go.Proofs.YtplngfammfdemaaW.PrintMore Q
set_option linter.unusedVariables false
set_option linter.unusedSimpArgs false
section
variable {w w1 : World} {ok ok' : Nat → Prop} {base g cap n : Nat} {A : Option Addr} {cells : Array Value} {xs ys : List S31} {rows rows2 : List (List Value)} {x : S31} {r : List Value} {v : Value}
theorem rows_of_each (ad : Addr) : ∀ (n : Nat) (xs : List S31), xs.length = n → (∀ j x, xs[j]? = some x → ∃ r, TreeRow w ok r x ∧ ∀ q u, r[q]? = some u → w.cell? (ad.add (j * 4 + q)) = some u) →
    ∃ rows, TreeRows w ok rows xs ∧ ∀ j r, rows[j]? = some r → ∀ q u, r[q]? = some u → w.cell? (ad.add (j * 4 + q)) = some u := by
  intro n
  induction n with
  | zero =>
    intro xs hn _
    obtain rfl := List.eq_nil_of_length_eq_zero hn
    exact ⟨[], TreeRows.nil, fun j r hr => by simp at hr⟩
  | succ n ih =>
    intro xs hn h
    obtain ⟨ys, x, rfl⟩ : ∃ ys x, xs = ys ++ [x] := ⟨xs.dropLast, xs.getLast (by intro e; rw [e] at hn; cases hn), (List.dropLast_concat_getLast _).symm⟩
    have hl : ys.length = n := by rw [List.length_append] at hn; simpa using hn
    obtain ⟨rows, h1, h2⟩ := ih ys hl (fun j x hx => h j x (by rw [List.getElem?_append_left (List.getElem?_eq_some_iff.1 hx).1]; exact hx))
    obtain ⟨r, hr, hc⟩ := h n x (by rw [List.getElem?_append_right (by omega), hl, Nat.sub_self]; rfl)
    refine ⟨rows ++ [r], h1.append (TreeRows.cons hr TreeRows.nil), fun j q hq => ?_⟩
    by_cases hj : j < rows.length
    · rw [List.getElem?_append_left hj] at hq
      exact h2 j q hq
    · have hjl := (List.getElem?_eq_some_iff.1 hq).1
      rw [List.length_append, List.length_singleton] at hjl
      have hrl : rows.length = n := h1.len.trans hl
      obtain rfl : j = n := by omega
      rw [List.getElem?_append_right (by omega), hrl, Nat.sub_self, List.getElem?_cons_zero, Option.some.injEq] at hq
      subst hq
      exact hc
theorem add_blk (a : Addr) (n : Nat) : (a.add n).block = a.block := by unfold Addr.add; split <;> rfl
/-- Its own block lies in ok. -/
theorem F_ok {ad : Addr} (h : Kd.F k31 w ok (some ad) xs.length xs) (hp : 0 < xs.length) : ok ad.block ∧ ad.block < w.heap.size := by
  have hx : xs[0]? = some xs[0] := List.getElem?_eq_getElem hp
  have hcell : ∀ W', Kd.C k31 W' (some ad) xs.length xs → W'.cell? (ad.add (0 * 4 + 0)) = some (.int .i64 (xs[0]).f0) := by
    intro W' hC
    obtain ⟨_, _, hn⟩ := hC
    obtain ⟨ad', e', hr⟩ := hn hp
    obtain rfl := Option.some.inj e'
    obtain ⟨c', hcl, hK, hcc⟩ := hr 0 _ hx
    obtain ⟨A', c, rfl, _, _⟩ := k31_open hK
    exact hcc 0 _ rfl
  have h0 := hcell w (Kd.F_now h)
  have hlt : ad.block < w.heap.size := by have := World.block_lt_of_cell? w _ h0; rwa [add_blk] at this
  refine ⟨Classical.byContradiction fun hno => ?_, hlt⟩
  have h1 := hcell { w with heap := w.heap.setIfInBounds ad.block (.deferred none) } (h _ (fun k hk _ => Array.getElem?_setIfInBounds_ne (fun e => hno (by rw [e]; exact hk))))
  unfold World.cell? at h1
  rw [add_blk, show ({ w with heap := w.heap.setIfInBounds ad.block (.deferred none) } : World).heap[ad.block]? = some (.deferred none) by simp [hlt]] at h1
  cases h1
/-- What came in, cell by cell. -/
theorem F_rows (h : Kd.F k31 w ok A xs.length xs) (hp : 0 < xs.length) :
    ∃ ad rows, A = some ad ∧ TreeRows w ok rows xs ∧ ∀ j u, rows.flatten[j]? = some u → w.cell? (ad.add j) = some u := by
  obtain ⟨_, _, hn⟩ := Kd.F_now h
  obtain ⟨ad, rfl, hr⟩ := hn hp
  have key : ∀ j x, xs[j]? = some x → ∃ r, TreeRow w ok r x ∧ ∀ q u, r[q]? = some u → w.cell? (ad.add (j * 4 + q)) = some u := by
    intro j x hx
    obtain ⟨c', hcl, hK, hcc⟩ := hr j x hx
    have hFK : Kd.FK k31 w ok x c' := fun W' hW => by
      obtain ⟨_, _, hn'⟩ := h W' hW
      obtain ⟨ad', e', hr'⟩ := hn' hp
      obtain rfl := Option.some.inj e'
      obtain ⟨c2, hcl2, hK2, hcc2⟩ := hr' j x hx
      have hok := F_ok h hp
      have hsame : ∀ q, W'.cell? (ad.add q) = w.cell? (ad.add q) := fun q => World.cell?_of_block (by rw [add_blk]; exact hW _ hok.1 hok.2)
      obtain ⟨A1, k1, rfl, _, _⟩ := k31_open hK
      obtain ⟨A2, k2, rfl, _, _⟩ := k31_open hK2
      have q1 := hcc 3 _ rfl
      have q2 := hcc2 3 _ rfl
      rw [hsame] at q2
      have e := Option.some.inj (q2.symm.trans q1)
      simp only [Value.slice.injEq] at e
      obtain ⟨rfl, _, rfl⟩ := e
      exact hK2
    obtain ⟨A', c, rfl, h2, h3⟩ := k31_openF' hFK
    exact ⟨_, ⟨A', c, rfl, h2, h3⟩, fun q u hq => hcc q u hq⟩
  obtain ⟨rows, h1, h2⟩ := rows_of_each ad xs.length xs rfl key
  refine ⟨ad, rows, rfl, h1, fun j u hj => ?_⟩
  have hjl := (List.getElem?_eq_some_iff.1 hj).1
  rw [flat4_len _ h1.four] at hjl
  have hq : j / 4 < rows.length := by omega
  have e := flat4_at rows h1.four (j / 4) (j % 4) (Nat.mod_lt _ (by omega)) _ (List.getElem?_eq_getElem hq)
  rw [show 4 * (j / 4) + j % 4 = j by omega] at e
  have := h2 (j / 4) _ (List.getElem?_eq_getElem hq) (j % 4) u (by rw [← e]; exact hj)
  rwa [show j / 4 * 4 + j % 4 = j by omega] at this
/-- What append made. -/
theorem KidsAt.of_own (h : w.ownsRow base 31 4 v n rows.flatten) (hr : TreeRows w ok rows xs) (hp : 0 < xs.length) (hf : xs.length ≤ 1000000) (ha : ∀ k, ok k → k < base) :
    ∃ g cap cells, v = .slice (some ⟨g, 0, none⟩) xs.length cap ∧ base ≤ g ∧ xs.length ≤ cap ∧ cap ≤ maxLen ∧ cells.size = cap * 4 ∧ KidsAt w ok g cells xs := by
  obtain ⟨h1, h2⟩ := h
  rw [flat4_len _ hr.four, hr.len] at h1
  obtain rfl : xs.length = n := by omega
  rcases h2 with ⟨_, h0⟩ | ⟨g, cap, cur, rfl, hb, hg, hnc, hcm, hsz, htk⟩
  · omega
  · exact ⟨g, cap, cur, rfl, hb, hnc, hcm, hsz, KidsAt.of_rows hg htk hr hf (fun k hk => by have := ha k hk; omega)⟩
end
end Go.Proofs.Ytplngfammfdemaa
end
section
namespace Go.Proofs.Ytplngfammfdemaa
open Go.RowKit Go.Proofs.YtplngfammfdemaaW.PrintWords Go.Proofs.YtplngfammfdemaaW.PrintLast Go.Proofs.YtplngfammfdemaaW.PrintMore Q
set_option linter.unusedVariables false
set_option linter.unusedSimpArgs false
theorem k31_heap' : Kd.Heap k31 := Kd.heap_fix (fun d hd => Kd.heap_iso _ (Kd.heap_pair (Kd.heap_int .i64) (Kd.heap_pair (Kd.heap_int .i64) (Kd.heap_pair (Kd.heap_int .i64) (Kd.heap_slice 31 hd)))))
/-- A tree, its kids read; they lie in ok. -/
def TreeV (w : World) (ok : Nat → Prop) (v : Value) (t : S31) : Prop :=
  ∃ A c, v = .agg #[.int .i64 t.f0, .int .i64 t.f1, .int .i64 t.f2, .slice A t.f3.length c] ∧ t.f3.length ≤ c ∧ Kd.F k31 w ok A t.f3.length t.f3
/-- What a function that makes a tree answers: what it leads to lay in ok, or is new. -/
def TreeOut (w w' : World) (ok : Nat → Prop) (e : Ending) (t : S31) : Prop :=
  ∃ v, e = .returned v ∧ TreeV w' (fun k => ok k ∨ w.heap.size ≤ k) v t ∧ Below w.heap.size w w'
section
variable {w w1 w2 : World} {ok ok' : Nat → Prop} {g cap j : Nat} {cells : Array Value} {xs : List S31} {x t : S31} {v : Value} {e : Ending}
theorem TreeV.below (h : TreeV w ok v t) (hb : Below w.heap.size w w1) : TreeV w1 ok v t := by
  obtain ⟨A, c, h1, h2, h3⟩ := h
  exact ⟨A, c, h1, h2, Kd.F_below h3 hb⟩
theorem TreeV.mono (h : TreeV w ok v t) (hok : ∀ k, ok k → ok' k) : TreeV w ok' v t := by
  obtain ⟨A, c, h1, h2, h3⟩ := h
  exact ⟨A, c, h1, h2, Kd.F_mono h3 hok⟩
theorem TreeV.far (h : TreeV w ok v t) {p : Addr} (hp : ∀ k, ok k → k ≠ p.block) (u : Value) : TreeV (w.setCell p u) ok v t := by
  obtain ⟨A, c, h1, h2, h3⟩ := h
  exact ⟨A, c, h1, h2, Kd.F_far h3 hp u⟩
/-- The tree whose kids are a row of one's own. -/
theorem KidsAt.tree (h : KidsAt w ok g cells xs) (hc : xs.length ≤ cap) (a b s : Int) : TreeV w (fun k => ok k ∨ k = g) (.agg #[.int .i64 a, .int .i64 b, .int .i64 s, .slice (some ⟨g, 0, none⟩) xs.length cap]) ⟨a, b, s, xs⟩ := by
  obtain ⟨A, c, e, hl, hF⟩ := h.V (base := 0) (cap := cap) (ok' := fun k => ok k ∨ k = g) hc (.inr rfl) (fun k hk => .inl hk)
  simp only [Value.slice.injEq] at e
  obtain ⟨rfl, _, rfl⟩ := e
  exact ⟨_, cap, rfl, hl, hF⟩
/-- One of a row's trees. -/
theorem KidsAt.one (h : KidsAt w ok g cells xs) (hj : xs[j]? = some x) : ∃ A c, TreeV w ok (.agg #[.int .i64 x.f0, .int .i64 x.f1, .int .i64 x.f2, .slice A x.f3.length c]) x ∧ w.cell? ⟨g, 4 * j, none⟩ = some (.int .i64 x.f0) ∧ w.cell? ⟨g, 4 * j + 1, none⟩ = some (.int .i64 x.f1) ∧
    w.cell? ⟨g, 4 * j + 2, none⟩ = some (.int .i64 x.f2) ∧ w.cell? ⟨g, 4 * j + 3, none⟩ = some (.slice A x.f3.length c) := by
  obtain ⟨h0, h1, h2, A, c, h3, h4, h5⟩ := h.cell hj
  exact ⟨A, c, ⟨A, c, rfl, h4, h5⟩, h0, h1, h2, h3⟩
/-- An answer written into one's own row: what is new since the call is not that row. -/
theorem KidsAt.answer (h : KidsAt w ok g cells xs) (hj : j < xs.length) (ho : TreeOut w w1 ok e t) (hg : g < w.heap.size) :
    ∃ A c, e = .returned (.agg #[.int .i64 t.f0, .int .i64 t.f1, .int .i64 t.f2, .slice A t.f3.length c]) ∧ KidsAt ((((w1.setCell ⟨g, 4 * j, none⟩ (.int .i64 t.f0)).setCell ⟨g, 4 * j + 1, none⟩ (.int .i64 t.f1)).setCell ⟨g, 4 * j + 2, none⟩ (.int .i64 t.f2)).setCell ⟨g, 4 * j + 3, none⟩ (.slice A t.f3.length c))
      (fun k => ok k ∨ w.heap.size ≤ k) g ((((cells.setIfInBounds (4 * j) (.int .i64 t.f0)).setIfInBounds (4 * j + 1) (.int .i64 t.f1)).setIfInBounds (4 * j + 2) (.int .i64 t.f2)).setIfInBounds (4 * j + 3) (.slice A t.f3.length c)) (xs.set j t) := by
  obtain ⟨v, rfl, ⟨A, c, rfl, h2, h3⟩, hb⟩ := ho
  refine ⟨A, c, rfl, ?_⟩
  have h1 : KidsAt w1 (fun k => ok k ∨ w.heap.size ≤ k) g cells xs := (h.below hb).mono (fun k hk => .inl hk) (fun k hk => hk.elim (h.apart k) (fun hk => by omega))
  exact h1.put hj t h2 h3
end
end Go.Proofs.Ytplngfammfdemaa
end
section
namespace Go.Proofs.Ytplngfammfdemaa
open Go.RowKit Go.Proofs.YtplngfammfdemaaW.PrintWords Go.Proofs.YtplngfammfdemaaW.PrintLast Go.Proofs.YtplngfammfdemaaW.PrintMore Q
set_option linter.unusedVariables false
set_option linter.unusedSimpArgs false
theorem blk_setCellsU {g : Nat} {t : TypeId} : ∀ (vs : List Value) (o : Nat) (w : World) (L : List Value), w.heap[g]? = some (.cells L.toArray t (0, 0)) → o + vs.length ≤ L.length →
    (w.setCells g o vs).heap[g]? = some (.cells (splice L o vs).toArray t (0, 0))
  | [], o, w, L, h, hl => by simpa [World.setCells, splice] using h
  | v :: vs, o, w, L, h, hl => by
    simp only [List.length_cons] at hl
    have h1 := blk_put h o v (cs' := (L.set o v).toArray) (by simp)
    have h2 := blk_setCellsU vs (o + 1) _ (L.set o v) h1 (by simp; omega)
    show (World.setCells (w.setCell ⟨g, o, none⟩ v) g (o + 1) vs).heap[g]? = _
    rw [h2]
    congr 3
    unfold splice
    rw [show o + 1 + vs.length = o + (vs.length + 1) by omega, List.length_cons]
    have e1 : (L.set o v).take (o + 1) = L.take o ++ [v] := by
      apply List.ext_getElem
      · simp; omega
      · intro i h1 h2
        simp only [List.length_take, List.length_set] at h1
        rw [List.getElem_take, List.getElem_set]
        by_cases hi : i < o
        · rw [if_neg (by omega), List.getElem_append_left (by simp; omega), List.getElem_take]
        · have : i = o := by omega
          subst this
          rw [if_pos rfl, List.getElem_append_right (by simp; omega)]
          simp
    have e2 : (L.set o v).drop (o + (vs.length + 1)) = L.drop (o + (vs.length + 1)) := by rw [List.drop_set_of_lt (by omega)]
    rw [e1, e2]; simp
theorem below_setCellsU {g : Nat} {B : Nat} {w0 : World} (hB : B ≤ g) : ∀ (vs : List Value) (o : Nat) (w : World), Below B w0 w → Below B w0 (w.setCells g o vs)
  | [], o, w, h => h
  | v :: vs, o, w, h => below_setCellsU hB vs (o + 1) _ (h.setCell (p := ⟨g, o, none⟩) hB v)
theorem addr_addU (g o j : Nat) : (⟨g, o, none⟩ : Addr).add j = ⟨g, o + j, none⟩ := by unfold Addr.add; split <;> simp_all
/-- copy as one step of a region that draws, its run known. -/
theorem step_copy_runU {P : Program} {ops : Array Oper} {o : Oper} {a : Act} {w : World} {K : Act → World → Prop} {Q : Exit → Act → World → Prop} {E : Prop}
    (hg : o.guard = none) (d x : Operand) (dT sT : TypeId) (hop : o.op = Op.call { callee := Callee.builtin Builtin.copy, args := #[d, x], argTypes := #[dT, sT] })
    (v u : Value) (hd : a.eval d = v) (hx : a.eval x = u) {v' : Value} {w' : World} (hr : (Builtin.copy_ #[dT, sT] o.type #[v, u]).run P w = .ok v' w') (hK : K (a.put o.dst v') w') :
    if Region.wanted o (yielded ops a.tmps) = true then Oper.wp P o a w K Q else E := by
  have hw : Region.wanted o (yielded ops a.tmps) = true := by simp [Region.wanted, hg]
  rw [if_pos hw]
  unfold Oper.wp
  simp [execOp, hop, resolve, invoke, builtin, hd, hx, hr, Result.andThen]
  exact hK
theorem info31 : (Try.prog.info? 31).map (fun i => (i.zero, i.size, i.bytes)) = some (some (.agg #[.int .i64 0, .int .i64 0, .int .i64 0, .slice none 0 0]), 4, 48) := by kernel_rfl
theorem size31 : (Try.prog.info? 31).map (·.size) = some 4 := by
  obtain ⟨i0, hi0, hz0, hz1, hz2⟩ := info_parts info31
  rw [hi0]; simp [hz1]
/-- Rows of values of one cell each. -/
def One (l : List (List Value)) : Prop := ∀ r ∈ l, ∀ v ∈ r, v.oneCell' = true
theorem One.take {l : List (List Value)} (h : One l) (i : Nat) : One (l.take i) := fun r hr => h r (List.mem_of_mem_take hr)
theorem One.drop {l : List (List Value)} (h : One l) (i : Nat) : One (l.drop i) := fun r hr => h r (List.mem_of_mem_drop hr)
theorem One.flat {l : List (List Value)} (h : One l) : ∀ v ∈ l.flatten, v.oneCell' = true := fun v hv => by
  obtain ⟨r, hr, hv⟩ := List.mem_flatten.1 hv
  exact h r hr v hv
end Go.Proofs.Ytplngfammfdemaa
end
section
namespace Go.Proofs.Ytplngfammfdemaa
open Go.RowKit Go.Proofs.YtplngfammfdemaaW.PrintWords Go.Proofs.YtplngfammfdemaaW.PrintLast Go.Proofs.YtplngfammfdemaaW.PrintMore Q
set_option linter.unusedVariables false
set_option linter.unusedSimpArgs false
/-- A row of one's own in block g, with its room. -/
structure OwnAt (w : World) (ok : Nat → Prop) (base g cap : Nat) (cells : Array Value) (xs : List S31) : Prop where
  kids : KidsAt w ok g cells xs
  low : base ≤ g
  fit : xs.length ≤ cap
  most : cap ≤ maxLen
  size : cells.size = cap * 4
/-- What slices.Clone makes. -/
def Cloned (w w' : World) (ok : Nat → Prop) (xs : List S31) (e : Ending) : Prop := ∃ g cap cells, e = .returned (.slice (some ⟨g, 0, none⟩) xs.length cap) ∧ OwnAt w' ok w.heap.size g cap cells xs ∧ Below w.heap.size w w'
set_option maxRecDepth 100000 in
set_option maxHeartbeats 4000000 in
theorem clone_tree (w : World) (ok : Nat → Prop) (A : Option Addr) (c : Nat) (xs : List S31) (h : Kd.F k31 w ok A xs.length xs) (hl : xs.length ≤ c) (hp : 0 < xs.length) (hf : xs.length ≤ 1000000) (hok : ∀ k, ok k → k < w.heap.size) :
    Calls Try.prog 109 #[.slice A xs.length c] w fun e w' => Cloned w w' ok xs e := by
  obtain ⟨ad, rows, rfl, hR, hc⟩ := F_rows h hp
  obtain ⟨i0, hi, hz0, hz1, hz2⟩ := info_parts info31
  have HR := Aside0.mk hR
  have HOK := Aside0.mk hok
  have hlt : ad.block < w.heap.size := (F_ok h hp).2
  clear h
  have hu29 := Try.underlying29
  have he : ∀ w : World, (binOp .eql 29 (.slice (some ad) xs.length c) (.slice none 0 0)).run Try.prog w = .ok (.bool false) w := fun _ => rfl
  have HC2 : Aside0 (∀ (o : Obj) (j : Nat) (u : Value), rows.flatten[j]? = some u → (w.alloc o).cell? (ad.add j) = some u) := ⟨fun o j u hj => (World.cell?_of_block (by rw [add_blk]; exact Below.heap_alloc w o _ hlt)).trans (hc j u hj)⟩
  have HV := Aside0.mk hR.one
  have HN := Aside0.mk (show rows.flatten.length = xs.length * 4 by rw [flat4_len _ hR.four, hR.len])
  clear hc hR hok
  go_enter Try.func109, Try.ntmps109
  go_wp2_with (refine wpList_append_grows _ (by rfl) _ _ 29 (by rfl) 31 i0 _ 4 48 Try.underlying29 hi hz0 hz1 hz2 rfl (by omega) (some ⟨w.heap.size, 0, none⟩) 0 0 [] (by rfl) (fun h => by cases h) rfl (fun _ _ _ _ h => by simp at h) ad xs.length c rows.flatten (by rfl) (by rw [HN.out]) (HC2.out _) HV.out (by omega) (by unfold maxLen; omega) (by omega) ?_; intro v' w' hown hg; have HOWN := Aside0.mk hown; have HG := Aside0.mk hg; clear hown hg)
  refine bodyPost_ret (results_tmp rfl _ _ _) rfl ?_
  have hb : Below w.heap.size w w' := (below_alloc (Below.refl _ _) _).grown HG.out (by simp) (fun k e => by cases e)
  obtain ⟨g, cap, cells, rfl, h1, h2, h3, h4, h5⟩ := KidsAt.of_own HOWN.out (HR.out.below hb) hp hf (fun k hk => by have := HOK.out k hk; simp; omega)
  exact ⟨g, cap, cells, rfl, ⟨h5, by simp at h1; omega, h2, h3, h4⟩, hb⟩
end Go.Proofs.Ytplngfammfdemaa
end
section
namespace Go.Proofs.Ytplngfammfdemaa
open Go.RowKit Go.Proofs.YtplngfammfdemaaW.PrintWords Go.Proofs.YtplngfammfdemaaW.PrintLast Go.Proofs.YtplngfammfdemaaW.PrintMore Q
set_option linter.unusedVariables false
set_option linter.unusedSimpArgs false
/-- The address of a row that begins its block. -/
structure RowAd (ad : Addr) (g : Nat) : Prop where
  eq : ad = ⟨g, 0, none⟩
section
variable {w w1 w2 : World} {ok ok' : Nat → Prop} {base g cap j : Nat} {cells : Array Value} {xs : List S31} {x t : S31} {v : Value} {ad : Addr}
theorem RowAd.at (h : RowAd ad g) (j : Nat) : ad.add (j * 4) = ⟨g, 4 * j, none⟩ := by
  rw [h.eq, addr_addU]; congr 1; omega
/-- What the cells of one of its trees hold. -/
theorem KidsAt.got (h : KidsAt w ok g cells xs) (hj : xs[j]? = some x) (e : RowAd ad g) : ∃ A c, TreeV w ok (.agg #[.int .i64 x.f0, .int .i64 x.f1, .int .i64 x.f2, .slice A x.f3.length c]) x ∧ w.cell? (ad.add (j * 4)) = some (.int .i64 x.f0) ∧ w.cell? ⟨(ad.add (j * 4)).block, (ad.add (j * 4)).off + 1, none⟩ = some (.int .i64 x.f1) ∧
    w.cell? ⟨(ad.add (j * 4)).block, (ad.add (j * 4)).off + 2, none⟩ = some (.int .i64 x.f2) ∧ w.cell? ⟨(ad.add (j * 4)).block, (ad.add (j * 4)).off + 3, none⟩ = some (.slice A x.f3.length c) := by
  rw [e.at j]
  obtain ⟨A, c, h1, h2, h3, h4, h5⟩ := h.one hj
  exact ⟨A, c, h1, h2, h3, h4, h5⟩
theorem KidsAt.free (h : KidsAt w ok g cells xs) (e : RowAd ad g) (j : Nat) : w.frozen? (ad.add (j * 4)) = false ∧ w.frozen? ⟨(ad.add (j * 4)).block, (ad.add (j * 4)).off + 1, none⟩ = false ∧ w.frozen? ⟨(ad.add (j * 4)).block, (ad.add (j * 4)).off + 2, none⟩ = false ∧ w.frozen? ⟨(ad.add (j * 4)).block, (ad.add (j * 4)).off + 3, none⟩ = false := by
  rw [e.at j]
  exact ⟨h.frozen _, h.frozen _, h.frozen _, h.frozen _⟩
theorem OwnAt.below (h : OwnAt w ok base g cap cells xs) (hb : Below w.heap.size w w1) : OwnAt w1 ok base g cap cells xs := ⟨h.kids.below hb, h.low, h.fit, h.most, h.size⟩
theorem OwnAt.far (h : OwnAt w ok base g cap cells xs) {p : Addr} (hg : p.block ≠ g) (hp : ∀ k, ok k → k ≠ p.block) (u : Value) : OwnAt (w.setCell p u) ok base g cap cells xs := ⟨h.kids.far hg hp u, h.low, h.fit, h.most, h.size⟩
theorem OwnAt.mono (h : OwnAt w ok base g cap cells xs) (hok : ∀ k, ok k → ok' k) (ha : ∀ k, ok' k → k ≠ g) : OwnAt w ok' base g cap cells xs := ⟨h.kids.mono hok ha, h.low, h.fit, h.most, h.size⟩
/-- Only blocks that there are count. -/
theorem F_cut {A : Option Addr} {n : Nat} {ys : List S31} (h : Kd.F k31 w ok A n ys) : Kd.F k31 w (fun k => ok k ∧ k < w.heap.size) A n ys := fun W' hW => h W' (fun k hk hlt => hW k ⟨hk, hlt⟩ hlt)
theorem TreeV.cut (h : TreeV w ok v t) : TreeV w (fun k => ok k ∧ k < w.heap.size) v t := by
  obtain ⟨A, c, h1, h2, h3⟩ := h
  exact ⟨A, c, h1, h2, F_cut h3⟩
theorem KidsAt.cut (h : KidsAt w ok g cells xs) : KidsAt w (fun k => ok k ∧ k < w.heap.size) g cells xs := ⟨h.blk, fun j x hj => (h.at_ j x hj).step (fun A hF => F_cut hF), h.few, fun k hk => h.apart k hk.1⟩
theorem OwnAt.cut (h : OwnAt w ok base g cap cells xs) : OwnAt w (fun k => ok k ∧ k < w.heap.size) base g cap cells xs := ⟨h.kids.cut, h.low, h.fit, h.most, h.size⟩
theorem OwnAt.setSize (h : OwnAt w ok base g cap cells xs) (hj : xs[j]? = some x) (e : RowAd ad g) (s : Int) : OwnAt (w.setCell ⟨(ad.add (j * 4)).block, (ad.add (j * 4)).off + 2, none⟩ (.int .i64 s)) ok base g cap (cells.setIfInBounds (4 * j + 2) (.int .i64 s)) (xs.set j ⟨x.f0, x.f1, s, x.f3⟩) := by
  rw [e.at j]
  exact ⟨h.kids.size hj s, h.low, by rw [List.length_set]; exact h.fit, h.most, by rw [Array.size_setIfInBounds]; exact h.size⟩
theorem OwnAt.put (h : OwnAt w ok base g cap cells xs) (hj : j < xs.length) (e : RowAd ad g) (y : S31) {A : Option Addr} {c : Nat} (hy : y.f3.length ≤ c) (hFy : Kd.F k31 w ok A y.f3.length y.f3) :
    ∃ cells', OwnAt ((((w.setCell (ad.add (j * 4)) (.int .i64 y.f0)).setCell ⟨(ad.add (j * 4)).block, (ad.add (j * 4)).off + 1, none⟩ (.int .i64 y.f1)).setCell ⟨(ad.add (j * 4)).block, (ad.add (j * 4)).off + 2, none⟩ (.int .i64 y.f2)).setCell ⟨(ad.add (j * 4)).block, (ad.add (j * 4)).off + 3, none⟩ (.slice A y.f3.length c)) ok base g cap cells' (xs.set j y) := by
  rw [e.at j]
  exact ⟨_, h.kids.put hj y hy hFy, h.low, by rw [List.length_set]; exact h.fit, h.most, by simp only [Array.size_setIfInBounds]; exact h.size⟩
/-- The kids' row of a tree that a function made lies in a block of its own, made since. -/
def OwnV (w w' : World) (v : Value) (t : S31) : Prop := 0 < t.f3.length → ∃ g cap, ∃ cells : Array Value, v = .agg #[.int .i64 t.f0, .int .i64 t.f1, .int .i64 t.f2, .slice (some ⟨g, 0, none⟩) t.f3.length cap] ∧ w.heap.size ≤ g ∧ w'.heap[g]? = some (.cells cells 31 (0, 0))
/-- What a function that makes a tree answers, and that its kids' row is its own. -/
def TreeNew (w w' : World) (ok : Nat → Prop) (e : Ending) (t : S31) : Prop := ∃ v, e = .returned v ∧ TreeV w' (fun k => ok k ∨ w.heap.size ≤ k) v t ∧ OwnV w w' v t ∧ Below w.heap.size w w'
theorem TreeNew.out {e : Ending} (h : TreeNew w w1 ok e t) : TreeOut w w1 ok e t := by
  obtain ⟨v, h1, h2, _, h3⟩ := h
  exact ⟨v, h1, h2, h3⟩
end
end Go.Proofs.Ytplngfammfdemaa
end
section
namespace Go.Proofs.Ytplngfammfdemaa
open Go.RowKit Go.Proofs.YtplngfammfdemaaW.PrintWords Go.Proofs.YtplngfammfdemaaW.PrintLast Go.Proofs.YtplngfammfdemaaW.PrintMore Q
set_option linter.unusedVariables false
set_option linter.unusedSimpArgs false
section
variable {w : World} {ok : Nat → Prop} {base g cap gK : Nat} {cells : Array Value} {xs ys : List S31} {A : Option Addr} {n : Nat} {v0 v1 v2 v3 : Value}
theorem F_far4 (h : Kd.F k31 w ok A n ys) (hp : ∀ k, ok k → k ≠ gK) : Kd.F k31 ((((w.setCell ⟨gK, 0, none⟩ v0).setCell ⟨gK, 1, none⟩ v1).setCell ⟨gK, 2, none⟩ v2).setCell ⟨gK, 3, none⟩ v3) ok A n ys :=
  Kd.F_far (p := ⟨gK, 3, none⟩) (Kd.F_far (p := ⟨gK, 2, none⟩) (Kd.F_far (p := ⟨gK, 1, none⟩) (Kd.F_far (p := ⟨gK, 0, none⟩) h hp _) hp _) hp _) hp _
theorem OwnAt.far4 (h : OwnAt w ok base g cap cells xs) (hg : gK ≠ g) (hp : ∀ k, ok k → k ≠ gK) : OwnAt ((((w.setCell ⟨gK, 0, none⟩ v0).setCell ⟨gK, 1, none⟩ v1).setCell ⟨gK, 2, none⟩ v2).setCell ⟨gK, 3, none⟩ v3) ok base g cap cells xs :=
  (((h.far (p := ⟨gK, 0, none⟩) hg hp v0).far (p := ⟨gK, 1, none⟩) hg hp v1).far (p := ⟨gK, 2, none⟩) hg hp v2).far (p := ⟨gK, 3, none⟩) hg hp v3
end
theorem OwnAt.putL {w : World} {ok : Nat → Prop} {base g cap j : Nat} {cells : Array Value} {xs : List S31} (h : OwnAt w ok base g cap cells xs) (hj : j < xs.length) (y : S31) {A : Option Addr} {c : Nat} (hy : y.f3.length ≤ c) (hFy : Kd.F k31 w ok A y.f3.length y.f3) :
    ∃ cells', OwnAt ((((w.setCell ⟨g, 4 * j, none⟩ (.int .i64 y.f0)).setCell ⟨g, 4 * j + 1, none⟩ (.int .i64 y.f1)).setCell ⟨g, 4 * j + 2, none⟩ (.int .i64 y.f2)).setCell ⟨g, 4 * j + 3, none⟩ (.slice A y.f3.length c)) ok base g cap cells' (xs.set j y) :=
  ⟨_, h.kids.put hj y hy hFy, h.low, by rw [List.length_set]; exact h.fit, h.most, by simp only [Array.size_setIfInBounds]; exact h.size⟩
section
variable {w : World} {p : Addr} {v0 v1 v2 v3 : Value}
theorem cell_farP {a : Addr} {x : Option Value} (h : a.block ≠ p.block) (hx : w.cell? a = x) : ((((w.setCell p v0).setCell ⟨p.block, p.off + 1, none⟩ v1).setCell ⟨p.block, p.off + 2, none⟩ v2).setCell ⟨p.block, p.off + 3, none⟩ v3).cell? a = x :=
  (cell_far (p := ⟨p.block, p.off + 3, none⟩) h _).trans ((cell_far (p := ⟨p.block, p.off + 2, none⟩) h _).trans ((cell_far (p := ⟨p.block, p.off + 1, none⟩) h _).trans ((cell_far h _).trans hx)))
theorem blk_farP {b : Nat} {cs : Array Value} {ty : TypeId} (hx : w.heap[b]? = some (.cells cs ty (0, 0))) (h : b ≠ p.block) : ((((w.setCell p v0).setCell ⟨p.block, p.off + 1, none⟩ v1).setCell ⟨p.block, p.off + 2, none⟩ v2).setCell ⟨p.block, p.off + 3, none⟩ v3).heap[b]? = some (.cells cs ty (0, 0)) :=
  blk_far (p := ⟨p.block, p.off + 3, none⟩) (blk_far (p := ⟨p.block, p.off + 2, none⟩) (blk_far (p := ⟨p.block, p.off + 1, none⟩) (blk_far hx h _) h _) h _) h _
theorem below_setP {w0 : World} {B : Nat} (hx : Below B w0 w) (h : B ≤ p.block) : Below B w0 ((((w.setCell p v0).setCell ⟨p.block, p.off + 1, none⟩ v1).setCell ⟨p.block, p.off + 2, none⟩ v2).setCell ⟨p.block, p.off + 3, none⟩ v3) :=
  (((hx.setCell h _).setCell (p := ⟨p.block, p.off + 1, none⟩) h _).setCell (p := ⟨p.block, p.off + 2, none⟩) h _).setCell (p := ⟨p.block, p.off + 3, none⟩) h _
end
end Go.Proofs.Ytplngfammfdemaa
end
