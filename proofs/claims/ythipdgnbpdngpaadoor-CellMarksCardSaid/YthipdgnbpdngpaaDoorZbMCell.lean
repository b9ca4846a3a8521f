-- A copy of the text YthipdgnbpdngpaaDoorMCell with what this claim does not reach left out (prune.py, a program of this project).
import Derived.Test.YthipdgnbpdngpaaDoorZbMWrite
import Derived.Test.YthipdgnbpdngpaaDoorZbPx18
namespace Go.Proofs.YthipdgnbpdngpaaDoor
set_option linter.unusedVariables false
set_option linter.unusedSimpArgs false
open Go.RowKit Go.Lib Go.Proofs.YthipdgnbpdngpaaDoorW.PrintWords Go.Proofs.YthipdgnbpdngpaaDoorW.PrintLast Go.Proofs.YthipdgnbpdngpaaDoorW.PrintMore Go.Proofs.YthipdgnbpdngpaaDoor.P
/-- From some number of rounds on, the answer is r. -/
def Ev {α : Type} (F : Nat → Option α) (r : α) : Prop := ∃ k0, ∀ k, k0 ≤ k → F k = some r
theorem Ev.of {α : Type} {F : Nat → Option α} {r : α} (hm : ∀ k, LeO (F k) (F (k + 1))) (k0 : Nat) (h : F k0 = some r) : Ev F r := by
  refine ⟨k0, fun k hk => ?_⟩
  obtain ⟨d, rfl⟩ : ∃ d, k = k0 + d := ⟨k - k0, by omega⟩
  clear hk
  induction d with
  | zero => exact h
  | succ n ih => exact hm _ r ih
theorem Ev.const {α : Type} (r : α) : Ev (fun _ => some r) r := ⟨0, fun _ _ => rfl⟩
theorem Ev.bind {α β : Type} {F : Nat → Option α} {G : Nat → α → Option β} {r : α} {q : β} (h : Ev F r) (g : Ev (fun k => G k r) q) : Ev (fun k => (F k).bind (G k)) q := by
  obtain ⟨k0, h⟩ := h
  obtain ⟨k1, g⟩ := g
  exact ⟨max k0 k1, fun k hk => by show (F k).bind (G k) = _; rw [h k (by omega)]; exact g k (by omega)⟩
theorem Ev.succ {α : Type} {F G : Nat → Option α} {r : α} (h : Ev F r) (e : ∀ k, G (k + 1) = F k) : Ev G r := by
  obtain ⟨k0, h⟩ := h
  refine ⟨k0 + 1, fun k hk => ?_⟩
  obtain ⟨k, rfl⟩ : ∃ j, k = j + 1 := ⟨k - 1, by omega⟩
  rw [e]
  exact h k (by omega)
theorem Ev.congr {α : Type} {F G : Nat → Option α} {r : α} (h : Ev F r) (e : ∀ k, G k = F k) : Ev G r := by
  obtain ⟨k0, h⟩ := h
  exact ⟨k0, fun k hk => by rw [e]; exact h k hk⟩
theorem Ev.at_ {α : Type} {F : Nat → Option α} {r : α} (k0 : Nat) (h : ∀ k, k0 ≤ k → F k = some r) : Ev F r := ⟨k0, h⟩
/-- A look that may be. -/
def look (fg bg fl : Int) : Bool := decide (0 ≤ fg) && decide (fg ≤ 256) && (decide (0 ≤ bg) && decide (bg ≤ 256)) && (decide (0 ≤ fl) && decide (fl ≤ 255))
theorem cin_eq (a b c : Int) : cell_in.f a b c = some (decide (b ≤ a) && decide (a ≤ c)) := by
  unfold cell_in.f
  by_cases h : a ≥ b <;> simp [h]
theorem rin_eq (a b c : Int) : backseatref04_in.f a b c = some (decide (b ≤ a) && decide (a ≤ c)) := by
  unfold backseatref04_in.f
  by_cases h : a ≥ b <;> simp [h]
theorem look_eq (fg bg fl : Int) : cell_Look.f fg bg fl = some (look fg bg fl) := by
  unfold cell_Look.f look
  simp only [cin_eq, Option.bind_some]
  cases (decide (0 ≤ fg) && decide (fg ≤ 256)) <;> cases (decide (0 ≤ bg) && decide (bg ≤ 256)) <;> simp
theorem rlook_eq (fg bg fl : Int) : backseatref04_Look.f fg bg fl = some (look fg bg fl) := by
  unfold backseatref04_Look.f look
  simp only [rin_eq, Option.bind_some]
  cases (decide (0 ≤ fg) && decide (fg ≤ 256)) <;> cases (decide (0 ≤ bg) && decide (bg ≤ 256)) <;> simp
theorem cell_alive : Ev (fun k => backseatlaw04_alive.f k) true := Ev.of (fun k => backseatlaw04_alive.mono k) 20 (by decide +kernel)
theorem uwidth (r : Int) : utf_Width.f r = some (widthZ r) := rfl
theorem nil_size (s : ByteArray) : s.toList = ([] : List UInt8) ↔ s.size = 0 := by
  rw [Lib.toList_data]
  constructor
  · intro h; have := len_size s; rw [h] at this; simp at this; omega
  · intro h; exact List.eq_nil_of_length_eq_zero (by rw [len_size]; exact h)
theorem ext_size (s : ByteArray) (n : Nat) (h : n ≤ s.size) : (s.extract n s.size).size = s.size - n := by rw [ByteArray.size_extract]; omega
/-- How many marks a text is: both count alike. -/
theorem marks_loop : ∀ (m : Nat) (s : ByteArray) (c : Nat), s.size ≤ m → c + s.size ≤ 100000 → ∃ r : Int, (r = -1 ∨ (c : Int) ≤ r) ∧ Ev (fun k => cell_marks.l0 k s (c : Int)) r ∧ Ev (fun k => backseatref04_Right.l0 k s (c : Int)) (decide (0 ≤ r) && decide (r ≤ 2)) := by
  intro m
  induction m with
  | zero =>
    intro s c hm hc
    refine ⟨c, .inr (Int.le_refl _), Ev.succ (Ev.const _) (fun k => ?_), Ev.succ (Ev.const _) (fun k => ?_)⟩
    · rw [cell_marks.l0, if_pos ((nil_size s).2 (by omega))]
    · rw [backseatref04_Right.l0, if_neg (by omega)]
      simp
  | succ m ih =>
    intro s c hm hc
    by_cases h0 : s.size = 0
    · refine ⟨c, .inr (Int.le_refl _), Ev.succ (Ev.const _) (fun k => ?_), Ev.succ (Ev.const _) (fun k => ?_)⟩
      · rw [cell_marks.l0, if_pos ((nil_size s).2 h0)]
      · rw [backseatref04_Right.l0, if_neg (by omega)]
        simp
    have e1 : Ev (fun k => utf_First.f k s) (firstL s.data.toList) := ⟨6, fun k hk => first_go s k hk⟩
    have e2 : Ev (fun k => backseatref01_First.f k s) (firstL s.data.toList) := ⟨20, fun k hk => ref_go s k hk⟩
    have hl : s.data.toList.length ≠ 0 := by rw [len_size]; exact h0
    by_cases hE : (firstL s.data.toList).2.2 = 0
    · obtain ⟨_, _, hn1, _, hn4⟩ := first_back s.data.toList hl hE
      rw [len_size] at hn4
      by_cases hw : widthZ (firstL s.data.toList).1 = 0
      · obtain ⟨n, hn⟩ : ∃ n : Nat, (firstL s.data.toList).2.1 = n := ⟨(firstL s.data.toList).2.1.toNat, by omega⟩
        have hsz := ext_size s n (by omega)
        obtain ⟨r, r0, r1, r2⟩ := ih (s.extract n s.size) (c + 1) (by omega) (by omega)
        refine ⟨r, by omega, Ev.succ (Ev.bind (G := fun k b => (if b.2.2 = 0 then ((utf_Width.f b.1).bind fun t221 => (if t221 = 0 then (if 0 ≤ b.2.1 then (if b.2.1 ≤ (s.size : Int) then (cell_marks.l0 k (s.extract (b.2.1 : Int).toNat s.size) (wrap64 ((c : Int) + 1))) else (none)) else (none)) else (some (-1)))) else (some (-1)))) e1 (r1.congr (fun k => ?_))) (fun k => ?_),
          Ev.succ (Ev.bind (G := fun k b => (if b.2.2 = 0 then ((backseatref01_Width.f k b.1).bind fun t255 => (if t255 = 0 then (if 0 ≤ b.2.1 then (if b.2.1 ≤ (s.size : Int) then (backseatref04_Right.l0 k (s.extract (b.2.1 : Int).toNat s.size) (wrap64 ((c : Int) + 1))) else (none)) else (none)) else (some false))) else (some false))) e2 ?_) (fun k => ?_)⟩
        · rw [if_pos hE, uwidth, Option.bind_some, if_pos hw, if_pos (by omega), if_pos (by omega), hn, Int.toNat_natCast, w64 (by omega) (by omega)]; rfl
        · rw [cell_marks.l0, if_neg (by rw [nil_size]; exact h0)]
        · obtain ⟨k2, r2⟩ := r2
          refine ⟨max k2 5, fun k hk => ?_⟩
          dsimp only
          rw [if_pos hE, width_go _ k (by omega), Option.bind_some, if_pos hw, if_pos (by omega), if_pos (by omega), hn, Int.toNat_natCast, w64 (by omega) (by omega)]
          exact r2 k (by omega)
        · rw [backseatref04_Right.l0, if_pos (by omega)]
      · refine ⟨-1, .inl rfl, Ev.succ (Ev.bind (G := fun k b => (if b.2.2 = 0 then ((utf_Width.f b.1).bind fun t221 => (if t221 = 0 then (if 0 ≤ b.2.1 then (if b.2.1 ≤ (s.size : Int) then (cell_marks.l0 k (s.extract (b.2.1 : Int).toNat s.size) (wrap64 ((c : Int) + 1))) else (none)) else (none)) else (some (-1)))) else (some (-1)))) e1 ((Ev.const _).congr (fun k => ?_))) (fun k => ?_),
          Ev.succ (Ev.bind (G := fun k b => (if b.2.2 = 0 then ((backseatref01_Width.f k b.1).bind fun t255 => (if t255 = 0 then (if 0 ≤ b.2.1 then (if b.2.1 ≤ (s.size : Int) then (backseatref04_Right.l0 k (s.extract (b.2.1 : Int).toNat s.size) (wrap64 ((c : Int) + 1))) else (none)) else (none)) else (some false))) else (some false))) e2 ?_) (fun k => ?_)⟩
        · rw [if_pos hE, uwidth, Option.bind_some, if_neg hw]
        · rw [cell_marks.l0, if_neg (by rw [nil_size]; exact h0)]
        · refine ⟨5, fun k hk => ?_⟩
          dsimp only
          rw [if_pos hE, width_go _ k (by omega), Option.bind_some, if_neg hw]
          rfl
        · rw [backseatref04_Right.l0, if_pos (by omega)]
    · refine ⟨-1, .inl rfl, Ev.succ (Ev.bind (G := fun k b => (if b.2.2 = 0 then ((utf_Width.f b.1).bind fun t221 => (if t221 = 0 then (if 0 ≤ b.2.1 then (if b.2.1 ≤ (s.size : Int) then (cell_marks.l0 k (s.extract (b.2.1 : Int).toNat s.size) (wrap64 ((c : Int) + 1))) else (none)) else (none)) else (some (-1)))) else (some (-1)))) e1 ((Ev.const _).congr (fun k => ?_))) (fun k => ?_),
          Ev.succ (Ev.bind (G := fun k b => (if b.2.2 = 0 then ((backseatref01_Width.f k b.1).bind fun t255 => (if t255 = 0 then (if 0 ≤ b.2.1 then (if b.2.1 ≤ (s.size : Int) then (backseatref04_Right.l0 k (s.extract (b.2.1 : Int).toNat s.size) (wrap64 ((c : Int) + 1))) else (none)) else (none)) else (some false))) else (some false))) e2 ((Ev.const _).congr (fun k => ?_))) (fun k => ?_)⟩
      · rw [if_neg hE]
      · rw [cell_marks.l0, if_neg (by rw [nil_size]; exact h0)]
      · rw [if_neg hE]; rfl
      · rw [backseatref04_Right.l0, if_pos (by omega)]
/-- Whether a cell may be: both tell it alike. -/
theorem right_eq (s : ByteArray) (w fg bg fl : Int) (hs : s.size ≤ 1000) : ∃ b : Bool, (s.size = 0 → b = (look fg bg fl && decide (0 ≤ w ∧ w ≤ 1))) ∧ Ev (fun k => cell_Right.f k s w fg bg fl) b ∧ Ev (fun k => backseatref04_Right.f k s w fg bg fl) b := by
  have rr : ∀ b : Bool, (look fg bg fl = true → 0 ≤ w → w ≤ 2 → Ev (fun k => backseatref04_Right.j0 k false s w fg bg fl) b) → ((look fg bg fl && decide (0 ≤ w ∧ w ≤ 2)) = false → b = false) → Ev (fun k => backseatref04_Right.f k s w fg bg fl) b := by
    intro b h1 h2
    have jt : Ev (fun k => backseatref04_Right.j0 k true s w fg bg fl) false := Ev.succ (Ev.const _) (fun k => by rw [backseatref04_Right.j0, if_pos rfl])
    cases hl : look fg bg fl with
    | false =>
      rw [h2 (by rw [hl]; rfl)]
      refine Ev.congr jt (fun k => ?_)
      unfold backseatref04_Right.f
      rw [rlook_eq, hl, Option.bind_some, if_neg (by decide)]
    | true =>
      by_cases hw : 0 ≤ w ∧ w ≤ 2
      · refine Ev.congr (h1 hl hw.1 hw.2) (fun k => ?_)
        unfold backseatref04_Right.f
        rw [rlook_eq, hl, Option.bind_some, if_pos rfl, if_neg (by omega), show decide (w > 2) = false by simp; omega]
      · rw [h2 (by rw [hl]; simp; omega)]
        refine Ev.congr jt (fun k => ?_)
        unfold backseatref04_Right.f
        rw [rlook_eq, hl, Option.bind_some, if_pos rfl]
        by_cases hw0 : w < 0
        · rw [if_pos hw0]
        · rw [if_neg hw0, show decide (w > 2) = true by simp; omega]
  by_cases h0 : s.size = 0
  · refine ⟨look fg bg fl && decide (0 ≤ w ∧ w ≤ 1), fun _ => rfl, ⟨0, fun k _ => ?_⟩, rr _ (fun hl hw0 hw2 => Ev.succ (Ev.const _) (fun k => ?_)) (fun h => ?_)⟩
    · show cell_Right.f k s w fg bg fl = _
      unfold cell_Right.f
      rw [if_pos ((nil_size s).2 h0), look_eq, Option.bind_some, cin_eq]
      cases look fg bg fl <;> simp
    · rw [backseatref04_Right.j0, if_neg (by decide), if_pos ((nil_size s).2 h0), hl]
      rw [Bool.true_and]
      congr 1
      rw [decide_eq_decide]; omega
    · cases hl : look fg bg fl with
      | false => rfl
      | true => rw [hl, Bool.true_and, decide_eq_false_iff_not] at h; rw [Bool.true_and, decide_eq_false_iff_not]; omega
  · have e1 : ∀ k, 6 ≤ k → utf_First.f k s = some (firstL s.data.toList) := fun k hk => first_go s k hk
    have e2 : ∀ k, 20 ≤ k → backseatref01_First.f k s = some (firstL s.data.toList) := fun k hk => ref_go s k hk
    have hlen : s.data.toList.length ≠ 0 := by rw [len_size]; exact h0
    have j0t : ∀ x, Ev (fun k => cell_Right.j0 k x true s w fg bg fl) false := fun x => Ev.succ (Ev.const _) (fun k => by rw [cell_Right.j0, if_pos rfl])
    have j1t : ∀ a b c, Ev (fun k => backseatref04_Right.j1 k true s w fg bg fl a b c) false := fun a b c => Ev.succ (Ev.const _) (fun k => by rw [backseatref04_Right.j1, if_pos rfl])
    -- what both do behind the first letter
    by_cases hok : (firstL s.data.toList).2.2 = 0 ∧ 1 ≤ w ∧ w ≤ 2 ∧ widthZ (firstL s.data.toList).1 = w
    · obtain ⟨hE, hw1, hw2, hW⟩ := hok
      obtain ⟨_, _, hn1, _, hn4⟩ := first_back s.data.toList hlen hE
      rw [len_size] at hn4
      obtain ⟨n, hn⟩ : ∃ n : Nat, (firstL s.data.toList).2.1 = n := ⟨(firstL s.data.toList).2.1.toNat, by omega⟩
      have hsz := ext_size s n (by omega)
      obtain ⟨r, r0, r1, r2⟩ := marks_loop s.size (s.extract n s.size) 0 (by omega) (by omega)
      refine ⟨look fg bg fl && (decide (0 ≤ r) && decide (r ≤ 2)), fun h => absurd h h0, ?_, rr _ (fun hl _ _ => ?_) (fun h => ?_)⟩
      · have : Ev (fun k => cell_Right.j0 k n false s w fg bg fl) (look fg bg fl && (decide (0 ≤ r) && decide (r ≤ 2))) := by
          obtain ⟨k1, r1⟩ := r1
          refine ⟨k1 + 1, fun k hk => ?_⟩
          obtain ⟨k, rfl⟩ : ∃ j, k = j + 1 := ⟨k - 1, by omega⟩
          dsimp only
          rw [cell_Right.j0, if_neg (by decide), look_eq, Option.bind_some]
          cases hl : look fg bg fl with
          | false => rw [if_neg (by decide)]; rfl
          | true =>
            rw [if_pos rfl, if_pos (by omega), if_pos (by omega), Int.toNat_natCast]
            have q := r1 k (by omega)
            unfold cell_marks.f
            dsimp only at q
            rw [show ((0 : Nat) : Int) = 0 from rfl] at q
            rw [q, Option.bind_some, cin_eq, Option.bind_some]
            rfl
        obtain ⟨k1, this⟩ := this
        refine ⟨max k1 6, fun k hk => ?_⟩
        show cell_Right.f k s w fg bg fl = _
        unfold cell_Right.f
        rw [if_neg (by rw [nil_size]; exact h0), e1 k (by omega), Option.bind_some, if_pos hE, cin_eq, Option.bind_some, if_pos (by simp; omega), uwidth, Option.bind_some, hn, hW, show (w != w) = false by simp]
        exact this k (by omega)
      · rw [hl, Bool.true_and]
        obtain ⟨k2, r2⟩ := r2
        refine ⟨max k2 20 + 2, fun k hk => ?_⟩
        obtain ⟨k, rfl⟩ : ∃ j, k = j + 2 := ⟨k - 2, by omega⟩
        dsimp only
        rw [backseatref04_Right.j0, if_neg (by decide), if_neg (by rw [nil_size]; exact h0), e2 (k + 1) (by omega), Option.bind_some, if_pos hE, if_neg (by omega), width_go _ (k + 1) (by omega), Option.bind_some, hW, show (w != w) = false by simp, backseatref04_Right.j1, if_neg (by decide), hn, if_pos (by omega), if_pos (by omega), Int.toNat_natCast]
        exact r2 k (by omega)
      · cases hl : look fg bg fl with
        | false => rfl
        | true => rw [hl] at h; simp at h; omega
    · refine ⟨false, fun h => absurd h h0, ?_, rr _ (fun hl hw0 hw2 => ?_) (fun _ => rfl)⟩
      · obtain ⟨k1, hj⟩ := j0t (firstL s.data.toList).2.1
        refine ⟨max k1 6, fun k hk => ?_⟩
        show cell_Right.f k s w fg bg fl = _
        unfold cell_Right.f
        have q := hj k (by omega)
        dsimp only at q
        rw [if_neg (by rw [nil_size]; exact h0), e1 k (by omega), Option.bind_some]
        by_cases hE : (firstL s.data.toList).2.2 = 0
        · rw [if_pos hE, cin_eq, Option.bind_some]
          by_cases hw : 1 ≤ w ∧ w ≤ 2
          · rw [if_pos (by simp; omega), uwidth, Option.bind_some, show (widthZ (firstL s.data.toList).1 != w) = true by
              rw [bne_iff_ne]; intro hW; exact hok ⟨hE, hw.1, hw.2, hW⟩]
            exact q
          · rw [if_neg (by simp; omega)]; exact q
        · rw [if_neg hE]; exact q
      · obtain ⟨k2, hj⟩ := j1t (firstL s.data.toList).1 (firstL s.data.toList).2.1 (firstL s.data.toList).2.2
        refine ⟨max k2 20 + 1, fun k hk => ?_⟩
        obtain ⟨k, rfl⟩ : ∃ j, k = j + 1 := ⟨k - 1, by omega⟩
        have q := hj k (by omega)
        dsimp only at q ⊢
        rw [backseatref04_Right.j0, if_neg (by decide), if_neg (by rw [nil_size]; exact h0), e2 k (by omega), Option.bind_some]
        by_cases hE : (firstL s.data.toList).2.2 = 0
        · rw [if_pos hE]
          by_cases hw : w = 0
          · rw [if_pos hw]; exact q
          · rw [if_neg hw, width_go _ k (by omega), Option.bind_some, show (widthZ (firstL s.data.toList).1 != w) = true by
              rw [bne_iff_ne]; intro hW; exact hok ⟨hE, by omega, hw2, hW⟩]
            exact q
        · rw [if_neg hE]; exact q
theorem emp : (⟨#[]⟩ : ByteArray).toList = [] := by rw [Lib.toList_data]
/-- The text of a number. -/
def txt (r : Int) : ByteArray := if Lib.validRune r = true then Utf8.encode r else ⟨#[]⟩
theorem txt_eq (r : Int) : ∃ e, utf_Text.f r = some (txt r, e) ∧ (Lib.validRune r = true → e = 0) ∧ (Lib.validRune r = false → e = 1) := by
  unfold utf_Text.f txt
  cases hv : Lib.validRune r with
  | true => exact ⟨0, by simp, fun _ => rfl, fun h => by cases h⟩
  | false => exact ⟨1, by simp, fun h => (by cases h), fun _ => rfl⟩
theorem txt_size (r : Int) : (txt r).size ≤ 4 := by
  unfold txt
  cases hv : Lib.validRune r with
  | true => rw [if_pos rfl]; have := enc_len r hv; rw [enc_size]; omega
  | false => rw [if_neg (by decide)]; decide
theorem width_bad (r : Int) (hv : Lib.validRune r = false) : widthZ r = -1 := by unfold widthZ; rw [if_pos (.inl hv)]
theorem of_eq (r fg bg fl : Int) : cell_Of.f r fg bg fl = some (if widthZ r < 1 ∨ look fg bg fl = false then ((⟨#[]⟩ : ByteArray), 0, 0, 0, 0, 1) else (txt r, widthZ r, fg, bg, fl, 0)) := by
  unfold cell_Of.f
  obtain ⟨e, h1, h2, h3⟩ := txt_eq r
  rw [h1, Option.bind_some, uwidth, Option.bind_some, look_eq, Option.bind_some, Option.bind_some]
  cases hv : Lib.validRune r with
  | false =>
    rw [if_neg (by rw [h3 hv]; simp), if_pos (.inl (by rw [width_bad r hv]; decide))]
  | true =>
    rw [if_pos (h2 hv)]
    by_cases hw : widthZ r < 1
    · rw [if_pos hw, if_pos (.inl hw)]
    · rw [if_neg hw]
      cases hl : look fg bg fl with
      | false => rw [if_neg (by decide), if_pos (.inr rfl)]
      | true => rw [if_pos rfl, if_neg (by simp; omega)]
/-- What Mark does: b: whether the cell may be, b2: whether the longer one may be. -/
def markR (s : ByteArray) (w fg bg fl r : Int) (b b2 : Bool) : ByteArray × Int × Int × Int × Int × Int :=
  if b = false ∨ s.size = 0 ∨ widthZ r ≠ 0 then ((⟨#[]⟩ : ByteArray), 0, 0, 0, 0, 1) else if b2 = true then (s ++ txt r, w, fg, bg, fl, 0) else ((⟨#[]⟩ : ByteArray), 0, 0, 0, 0, 7)
theorem mark_ev (s : ByteArray) (w fg bg fl r : Int) (hs : s.size ≤ 900) (b b2 : Bool) (hb : Ev (fun k => cell_Right.f k s w fg bg fl) b) (hb2 : Ev (fun k => cell_Right.f k (s ++ txt r) w fg bg fl) b2) :
    Ev (fun k => cell_Mark.f k s w fg bg fl r) (markR s w fg bg fl r b b2) := by
  obtain ⟨e, h1, _, _⟩ := txt_eq r
  have ht := txt_size r
  obtain ⟨k1, hb⟩ := hb
  obtain ⟨k2, hb2⟩ := hb2
  refine ⟨max k1 k2 + 1, fun k hk => ?_⟩
  obtain ⟨k, rfl⟩ : ∃ j, k = j + 1 := ⟨k - 1, by omega⟩
  have q1 := hb (k + 1) (by omega)
  have q2 := hb2 k (by omega)
  dsimp only at q1 q2 ⊢
  unfold cell_Mark.f markR
  rw [h1, Option.bind_some, q1, Option.bind_some]
  have jt : cell_Mark.j0 (k + 1) (txt r) true s w fg bg fl = some ((⟨#[]⟩ : ByteArray), 0, 0, 0, 0, 1) := by rw [cell_Mark.j0, if_pos rfl]
  cases b with
  | false => rw [if_neg (by decide), if_pos (.inl rfl)]; exact jt
  | true =>
    rw [if_pos rfl]
    by_cases h0 : s.size = 0
    · rw [if_pos ((nil_size s).2 h0), if_pos (.inr (.inl h0))]; exact jt
    · rw [if_neg (by rw [nil_size]; exact h0), uwidth, Option.bind_some]
      by_cases hw : widthZ r = 0
      · rw [hw, show ((0 : Int) != 0) = false by decide, cell_Mark.j0, if_neg (by decide), if_pos (by dsimp only; omega), q2, Option.bind_some, if_neg (show ¬ (true = false ∨ s.size = 0 ∨ (0 : Int) ≠ 0) by rintro (h | h | h); cases h; exact h0 h; exact h rfl)]
        cases b2 with
        | true => rw [if_pos rfl, if_pos rfl]
        | false => rw [if_neg (by decide), if_neg (by decide)]
      · rw [show (widthZ r != 0) = true by simpa using hw, if_pos (.inr (.inr hw))]; exact jt
end Go.Proofs.YthipdgnbpdngpaaDoor
