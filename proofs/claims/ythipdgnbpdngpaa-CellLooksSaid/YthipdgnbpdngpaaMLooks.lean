/- What asks for a look, and the law CellLooks, plain. -/
import Derived.Test.YthipdgnbpdngpaaMChange
namespace Go.Proofs.Ythipdgnbpdngpaa
set_option linter.unusedVariables false
set_option linter.unusedSimpArgs false
open Go.RowKit Go.Proofs.YthipdgnbpdngpaaW.PrintWords Go.Proofs.YthipdgnbpdngpaaW.PrintLast Go.Proofs.YthipdgnbpdngpaaW.PrintMore P
def sts : List Int := [1, 2, 3, 4, 5, 7, 8, 9]
def tail (fg bg : Int) : List Int := (if fg > 0 then [38, 5, wrap64 (fg - 1)] else []) ++ (if bg > 0 then [48, 5, wrap64 (bg - 1)] else [])
def bit (fl : Int) (i : Nat) : Bool := decide (Go.bits .and .i64 (shr .i64 fl i) 1 = 1)
theorem c_ask (k : Nat) (acc : List Int) (i : Nat) (fg bg fl : Int) (hi : i < 8) (ha : acc.length < 100) : cell_Ask.l0 (k + 1) acc sts 8 (i : Int) fg bg fl = cell_Ask.l0 k (if bit fl i then acc ++ [rd sts i] else acc) sts 8 ((i + 1 : Nat) : Int) fg bg fl := by
  rw [cell_Ask.l0, if_pos (by omega), if_pos (by omega), if_pos (by simp [sts]; omega), w64 (by omega) (by omega)]
  unfold bit
  by_cases h : Go.bits .and .i64 (shr .i64 fl i) 1 = 1
  · rw [if_pos h, if_pos (by omega), decide_eq_true h]; rfl
  · rw [if_neg h, decide_eq_false h]; rfl
theorem c_ask_end (k : Nat) (acc : List Int) (fg bg fl : Int) (ha : acc.length < 100) : cell_Ask.l0 (k + 1) acc sts 8 8 fg bg fl = some (acc ++ tail fg bg, 0) := by
  rw [cell_Ask.l0, if_neg (by decide)]
  unfold tail
  by_cases h : fg > 0
  · rw [if_pos h, Option.bind_some, if_pos (by simp; omega), Option.bind_some, if_pos h]
    by_cases h2 : bg > 0
    · rw [if_pos h2, Option.bind_some, if_pos (by simp; omega), if_pos h2, List.append_assoc]
    · rw [if_neg h2, if_neg h2, List.append_nil]
  · rw [if_neg h, if_neg h]
    by_cases h2 : bg > 0
    · rw [if_pos h2, Option.bind_some, if_pos (by simp; omega), if_pos h2, List.nil_append]
    · rw [if_neg h2, if_neg h2, List.append_nil, List.append_nil]
def rfl_ (n : Int) : Int := rd [0, 1, 2, 4, 8, 16, 0, 32, 64, 128] n
theorem rflag_eq (n : Int) (h0 : 1 ≤ n) (h1 : n ≤ 9) : backseatref04_flag.f n = some (rfl_ n) := by
  unfold backseatref04_flag.f
  rw [rin_eq, Option.bind_some, if_pos (by simp; omega), Option.bind_some, if_pos (by omega), if_pos (by simp; omega)]
  rfl
def rbit (fl : Int) (n : Int) : Bool := decide (rfl_ n > 0) && decide (Int.tmod (wrap64 (Int.tdiv fl (rfl_ n))) 2 = 1)
theorem r_ask (k : Nat) (acc : List Int) (n fg bg fl : Int) (h0 : 1 ≤ n) (h1 : n ≤ 9) (ha : acc.length < 100) : backseatref04_Ask.l0 (k + 1) acc n fg bg fl = backseatref04_Ask.l0 k (if rbit fl n then acc ++ [n] else acc) (n + 1) fg bg fl := by
  rw [backseatref04_Ask.l0, if_pos (by omega), rflag_eq n h0 h1, Option.bind_some, w64 (by omega) (by omega)]
  unfold rbit
  by_cases h : rfl_ n > 0
  · rw [if_pos h, Option.bind_some, if_neg (by omega), decide_eq_true h, Bool.true_and]
    by_cases h2 : Int.tmod (wrap64 (Int.tdiv fl (rfl_ n))) 2 = 1
    · rw [if_pos h2, if_pos (by omega), decide_eq_true h2]; rfl
    · rw [if_neg h2, decide_eq_false h2]; rfl
  · rw [if_neg h, decide_eq_false h, Bool.false_and]; rfl
theorem r_ask_end (k : Nat) (acc : List Int) (fg bg fl : Int) (ha : acc.length < 100) : backseatref04_Ask.l0 (k + 1) acc 10 fg bg fl = some (acc ++ tail fg bg) := by
  rw [backseatref04_Ask.l0, if_neg (by decide)]
  unfold tail
  by_cases h : fg > 0
  · rw [if_pos h, Option.bind_some, if_pos (by simp; omega), Option.bind_some, if_pos h]
    by_cases h2 : bg > 0
    · rw [if_pos h2, Option.bind_some, if_pos (by simp; omega), if_pos h2, List.append_assoc]
    · rw [if_neg h2, if_neg h2, List.append_nil]
  · rw [if_neg h, if_neg h]
    by_cases h2 : bg > 0
    · rw [if_pos h2, Option.bind_some, if_pos (by simp; omega), if_pos h2, List.nil_append]
    · rw [if_neg h2, if_neg h2, List.append_nil, List.append_nil]
theorem bits_all : ((List.range 256).all fun fl => (List.range 8).all fun i => bit fl i == rbit fl (rd sts i)) = true := by decide +kernel
theorem bit_eq (fl : Int) (i : Nat) (h0 : 0 ≤ fl) (h1 : fl ≤ 255) (hi : i < 8) : bit fl i = rbit fl (rd sts i) := by
  obtain ⟨f, rfl⟩ : ∃ f : Nat, fl = f := ⟨fl.toNat, by omega⟩
  exact beq_iff_eq.1 (List.all_eq_true.1 (List.all_eq_true.1 bits_all f (List.mem_range.2 (by omega))) i (List.mem_range.2 hi))
/-- One round of both, in step. -/
theorem ask_step (i : Nat) (fg bg fl : Int) (hi : i < 8) (h0 : 0 ≤ fl) (h1 : fl ≤ 255) (b : Nat) (hb : b < 50) (n : Int) (hn : rd sts i = n) (hn0 : 1 ≤ n) (hn1 : n ≤ 9)
    (ih : ∀ acc : List Int, acc.length ≤ b + 1 → ∃ r, r.length ≤ 20 ∧ Ev (fun k => cell_Ask.l0 k acc sts 8 ((i + 1 : Nat) : Int) fg bg fl) (r, 0) ∧ Ev (fun k => backseatref04_Ask.l0 k acc (n + 1) fg bg fl) r) :
    ∀ acc : List Int, acc.length ≤ b → ∃ r, r.length ≤ 20 ∧ Ev (fun k => cell_Ask.l0 k acc sts 8 (i : Int) fg bg fl) (r, 0) ∧ Ev (fun k => backseatref04_Ask.l0 k acc n fg bg fl) r := by
  intro acc ha
  obtain ⟨r, r0, r1, r2⟩ := ih (if bit fl i then acc ++ [n] else acc) (by split <;> (try simp) <;> omega)
  refine ⟨r, r0, Ev.succ r1 (fun k => ?_), Ev.succ r2 (fun k => ?_)⟩
  · rw [c_ask k acc i fg bg fl hi (by omega), hn]
  · rw [r_ask k acc n fg bg fl hn0 hn1 (by omega), ← hn, ← bit_eq fl i h0 h1 hi, hn]
theorem ask_skip (i : Nat) (fg bg fl : Int) (b : Nat) (hb : b < 50)
    (ih : ∀ acc : List Int, acc.length ≤ b → ∃ r, r.length ≤ 20 ∧ Ev (fun k => cell_Ask.l0 k acc sts 8 (i : Int) fg bg fl) (r, 0) ∧ Ev (fun k => backseatref04_Ask.l0 k acc 7 fg bg fl) r) :
    ∀ acc : List Int, acc.length ≤ b → ∃ r, r.length ≤ 20 ∧ Ev (fun k => cell_Ask.l0 k acc sts 8 (i : Int) fg bg fl) (r, 0) ∧ Ev (fun k => backseatref04_Ask.l0 k acc 6 fg bg fl) r := by
  intro acc ha
  obtain ⟨r, r0, r1, r2⟩ := ih acc ha
  refine ⟨r, r0, r1, Ev.succ r2 (fun k => ?_)⟩
  rw [r_ask k acc 6 fg bg fl (by decide) (by decide) (by omega)]
  rfl
theorem ask_eq (fg bg fl : Int) (hl : look fg bg fl = true) : ∃ r : List Int, r.length ≤ 20 ∧ Ev (fun k => cell_Ask.f k fg bg fl) (r, 0) ∧ Ev (fun k => backseatref04_Ask.f k fg bg fl) r := by
  obtain ⟨_, _, h0, h1⟩ := look_iff.1 hl
  have s8 : ∀ acc : List Int, acc.length ≤ 9 → ∃ r, r.length ≤ 20 ∧ Ev (fun k => cell_Ask.l0 k acc sts 8 ((8 : Nat) : Int) fg bg fl) (r, 0) ∧ Ev (fun k => backseatref04_Ask.l0 k acc 10 fg bg fl) r := fun acc ha =>
    ⟨acc ++ tail fg bg, by (unfold tail; repeat' split) <;> simp <;> omega, Ev.succ (Ev.const _) (fun k => c_ask_end k acc fg bg fl (by omega)), Ev.succ (Ev.const _) (fun k => r_ask_end k acc fg bg fl (by omega))⟩
  have s7 := ask_step 7 fg bg fl (by decide) h0 h1 8 (by decide) 9 (by decide) (by decide) (by decide) s8
  have s6 := ask_step 6 fg bg fl (by decide) h0 h1 7 (by decide) 8 (by decide) (by decide) (by decide) s7
  have s5 := ask_step 5 fg bg fl (by decide) h0 h1 6 (by decide) 7 (by decide) (by decide) (by decide) s6
  have t5 := ask_skip 5 fg bg fl 6 (by decide) s5
  have s4 := ask_step 4 fg bg fl (by decide) h0 h1 5 (by decide) 5 (by decide) (by decide) (by decide) t5
  have s3 := ask_step 3 fg bg fl (by decide) h0 h1 4 (by decide) 4 (by decide) (by decide) (by decide) s4
  have s2 := ask_step 2 fg bg fl (by decide) h0 h1 3 (by decide) 3 (by decide) (by decide) (by decide) s3
  have s1 := ask_step 1 fg bg fl (by decide) h0 h1 2 (by decide) 2 (by decide) (by decide) (by decide) s2
  have s0 := ask_step 0 fg bg fl (by decide) h0 h1 1 (by decide) 1 (by decide) (by decide) (by decide) s1
  obtain ⟨r, r0, r1, r2⟩ := s0 [0] (by decide)
  refine ⟨r, r0, Ev.congr r1 (fun k => ?_), Ev.congr r2 (fun k => ?_)⟩
  · unfold cell_Ask.f
    rw [look_eq, hl, Option.bind_some, if_pos rfl]
    rfl
  · rfl
theorem ask_no (k : Nat) (fg bg fl : Int) (hl : look fg bg fl = false) : cell_Ask.f k fg bg fl = some ([], 1) := by
  unfold cell_Ask.f
  rw [look_eq, hl, Option.bind_some, if_neg (by decide)]
/-- The comparison of two lists that are the same. -/
theorem cmp_loop (x1 l : List Int) (x6 x8 fg bg fl p q s : Int) (R : Bool) (hl : l.length < 1000000) (he : Ev (fun k => if x6 = 0 then (if x8 = 0 then ((backseatref04_Change.f k fg bg fl x1).bind fun bt273 => (some (p == bt273.1 && (q == bt273.2.1 && (s == bt273.2.2))))) else (some false)) else (some false)) R) :
    ∀ (m i : Nat), l.length - i = m → i ≤ l.length → Ev (fun k => backseatlaw04_CellLooks.l0 k x1 x6 l x8 l (l.length : Int) (i : Int) fg bg fl p q s) R := by
  intro m
  induction m with
  | zero =>
    intro i hm hi
    refine Ev.succ he (fun k => ?_)
    rw [backseatlaw04_CellLooks.l0, if_neg (by omega)]
  | succ m ih =>
    intro i hm hi
    refine Ev.succ (ih (i + 1) (by omega) (by omega)) (fun k => ?_)
    rw [backseatlaw04_CellLooks.l0, if_pos (by omega), if_pos (by omega), if_pos (by omega), if_pos (by omega), if_pos rfl, w64 (by omega) (by omega)]
    rfl
/-- CellLooks, plain: of any look and any numbers, the law is true. -/
theorem CellLooks (fg bg fl : Int) (l : List Int) (hl : l.length < 1000000000000000) (hw : ∀ n ∈ l, (Lit.int .i64 n).wf = true) : ∃ k, backseatlaw04_CellLooks.f k fg bg fl l = some true := by
  have hmn : mn (l.length : Int) 20 = ((min l.length 20 : Nat) : Int) := by unfold mn; split <;> omega
  have hw' : ∀ n ∈ l.take (min l.length 20), (Lit.int .i64 n).wf = true := fun n hn => hw n (List.mem_of_mem_take hn)
  have hlen : (l.take (min l.length 20)).length < 100 := by rw [List.length_take]; omega
  obtain ⟨ch0, ch1⟩ := change_eq fg bg fl (l.take (min l.length 20)) hlen hw'
  unfold backseatlaw04_CellLooks.f
  rw [hmn]
  simp only [Int.toNat_natCast]
  suffices h : Ev (fun k => (cell_Change.f k fg bg fl (l.take (min l.length 20))).bind fun bt255 => ((cell_Ask.f k fg bg fl).bind fun bt260 => ((cell_Look.f fg bg fl).bind fun t264 => ((backseatref04_Look.f fg bg fl).bind fun t265 => (if (t264 != t265) = true then (backseatlaw04_CellLooks.j0 k (l.take (min l.length 20)) bt255.2.2.2 bt260.1 bt260.2 true fg bg fl bt255.1 bt255.2.1 bt255.2.2.1) else ((backseatlaw04_alive.f k).bind fun t266 => (backseatlaw04_CellLooks.j0 k (l.take (min l.length 20)) bt255.2.2.2 bt260.1 bt260.2 (!t266) fg bg fl bt255.1 bt255.2.1 bt255.2.2.1))))))) true from by
    obtain ⟨k0, h⟩ := h
    exact ⟨k0, by rw [if_pos (by omega), if_pos (by omega)]; exact h k0 (Nat.le_refl _)⟩
  have key : ∀ (r1 : Int × Int × Int × Int) (r2 : List Int × Int), Ev (fun k => backseatlaw04_CellLooks.j0 k (l.take (min l.length 20)) r1.2.2.2 r2.1 r2.2 false fg bg fl r1.1 r1.2.1 r1.2.2.1) true → Ev (fun k => cell_Change.f k fg bg fl (l.take (min l.length 20))) r1 → Ev (fun k => cell_Ask.f k fg bg fl) r2 →
      Ev (fun k => (cell_Change.f k fg bg fl (l.take (min l.length 20))).bind fun bt255 => ((cell_Ask.f k fg bg fl).bind fun bt260 => ((cell_Look.f fg bg fl).bind fun t264 => ((backseatref04_Look.f fg bg fl).bind fun t265 => (if (t264 != t265) = true then (backseatlaw04_CellLooks.j0 k (l.take (min l.length 20)) bt255.2.2.2 bt260.1 bt260.2 true fg bg fl bt255.1 bt255.2.1 bt255.2.2.1) else ((backseatlaw04_alive.f k).bind fun t266 => (backseatlaw04_CellLooks.j0 k (l.take (min l.length 20)) bt255.2.2.2 bt260.1 bt260.2 (!t266) fg bg fl bt255.1 bt255.2.1 bt255.2.2.1))))))) true := by
    intro r1 r2 h1 h2 h3
    obtain ⟨k1, h1⟩ := h1
    obtain ⟨k2, h2⟩ := h2
    obtain ⟨k3, h3⟩ := h3
    obtain ⟨k4, h4⟩ := alive_ev
    refine ⟨max (max k1 k2) (max k3 k4), fun k hk => ?_⟩
    have e1 := h1 k (by omega)
    have e2 := h2 k (by omega)
    have e3 := h3 k (by omega)
    have e4 := h4 k (by omega)
    dsimp only at e1 e2 e3 e4
    show ((cell_Change.f k fg bg fl (l.take (min l.length 20))).bind _) = _
    rw [e2, Option.bind_some, e3, Option.bind_some, look_eq, Option.bind_some, rlook_eq, Option.bind_some, if_neg (by simp), e4, Option.bind_some]
    exact e1
  cases hk : look fg bg fl with
  | false =>
    refine key (0, 0, 0, 1) ([], 1) (Ev.succ (Ev.const true) (fun k => ?_)) (ch0 hk) ⟨0, fun k _ => ask_no k fg bg fl hk⟩
    rw [backseatlaw04_CellLooks.j0, if_neg (by decide), rlook_eq, hk, Option.bind_some, if_neg (by decide)]
    rfl
  | true =>
    obtain ⟨r, r1, r2⟩ := ch1 hk
    obtain ⟨q, q0, q1, q2⟩ := ask_eq fg bg fl hk
    refine key (r.1, r.2.1, r.2.2, 0) (q, 0) ?_ r1 q1
    have hq : q.length < 1000000 := by omega
    have hc := cmp_loop (l.take (min l.length 20)) q 0 0 fg bg fl r.1 r.2.1 r.2.2 true hq (by
      refine Ev.congr (Ev.bind (G := fun _ b => some (r.1 == b.1 && (r.2.1 == b.2.1 && (r.2.2 == b.2.2)))) r2 (Ev.const true |>.congr (fun k => by simp))) (fun k => ?_)
      rw [if_pos rfl, if_pos rfl]) q.length 0 (by omega) (by omega)
    refine Ev.succ (Ev.bind (G := fun k t => if (q.length : Int) = (t.length : Int) then (backseatlaw04_CellLooks.l0 k (l.take (min l.length 20)) 0 q 0 t (q.length : Int) 0 fg bg fl r.1 r.2.1 r.2.2) else some false) q2 (hc.congr (fun k => by rw [if_pos rfl]; rfl))) (fun k => ?_)
    rw [backseatlaw04_CellLooks.j0, if_neg (by decide), rlook_eq, hk, Option.bind_some, if_pos rfl]
end Go.Proofs.Ythipdgnbpdngpaa
