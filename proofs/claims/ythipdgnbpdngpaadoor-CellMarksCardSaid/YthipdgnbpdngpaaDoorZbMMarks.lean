-- A copy of the text YthipdgnbpdngpaaDoorMMarks with what this claim does not reach left out (prune.py, a program of this project).
import Derived.Test.YthipdgnbpdngpaaDoorZbMCell
import Derived.Test.YthipdgnbpdngpaaDoorZbPx19
namespace Go.Proofs.YthipdgnbpdngpaaDoor
set_option linter.unusedVariables false
set_option linter.unusedSimpArgs false
open Go.RowKit Go.Lib Go.Proofs.YthipdgnbpdngpaaDoorW.PrintWords Go.Proofs.YthipdgnbpdngpaaDoorW.PrintLast Go.Proofs.YthipdgnbpdngpaaDoorW.PrintMore Go.Proofs.YthipdgnbpdngpaaDoor.P
theorem width_valid (r : Int) (h : 0 ≤ widthZ r) : Lib.validRune r = true := by
  cases hv : Lib.validRune r with
  | true => rfl
  | false => rw [width_bad r hv] at h; exact absurd h (by decide)
theorem width_two (r : Int) : widthZ r ≤ 2 := by
  unfold widthZ
  repeat' split
  all_goals decide
theorem txt_list (r : Int) (hv : Lib.validRune r = true) : (txt r).data.toList = enc r := by unfold txt enc; rw [if_pos hv]
/-- Marks, one behind the other. -/
def seq (ms : List Int) : List UInt8 := ms.flatMap enc
theorem marks_go : ∀ (ms : List Int) (s : ByteArray) (c : Nat), (∀ m ∈ ms, widthZ m = 0) → s.data.toList = seq ms → c + ms.length ≤ 1000 → Ev (fun k => cell_marks.l0 k s (c : Int)) ((c + ms.length : Nat) : Int)
  | [], s, c, _, hs, _ => by
    have h0 : s.size = 0 := by have := len_size s; rw [hs] at this; simpa [seq] using this.symm
    exact Ev.succ (Ev.const _) (fun k => by rw [cell_marks.l0, if_pos ((nil_size s).2 h0)]; rfl)
  | m :: ms, s, c, hw, hs, hc => by
    have hm := hw m (by simp)
    have hv := width_valid m (by omega)
    have hl := enc_len m hv
    have hsz : s.size = (enc m).length + (seq ms).length := by rw [← len_size, hs]; simp [seq]
    have hf : firstL s.data.toList = (m, ((enc m).length : Int), 0) := by rw [hs]; exact first_enc m hv (seq ms)
    have ih := marks_go ms (s.extract (enc m).length s.size) (c + 1) (fun x hx => hw x (by simp [hx])) (by
      rw [toList_extract, hs]
      show (((enc m) ++ seq ms).drop (enc m).length).take _ = _
      rw [List.drop_left, List.take_of_length_le (by omega)]) (by simp only [List.length_cons] at hc; omega)
    obtain ⟨k1, ih⟩ := ih
    simp only [List.length_cons] at hc ⊢
    refine ⟨max k1 6 + 1, fun k hk => ?_⟩
    obtain ⟨k, rfl⟩ : ∃ j, k = j + 1 := ⟨k - 1, by omega⟩
    have q := ih k (by omega)
    dsimp only at q ⊢
    rw [cell_marks.l0, if_neg (by rw [nil_size]; omega), first_go s k (by omega), hf, Option.bind_some, if_pos rfl, uwidth, Option.bind_some, if_pos hm, if_pos (by dsimp only; omega), if_pos (by dsimp only; omega), Int.toNat_natCast, w64 (by omega) (by omega), show ((c : Int) + 1) = ((c + 1 : Nat) : Int) by omega, q]
    congr 2
    omega
theorem right_go (s : ByteArray) (r fg bg fl : Int) (ms : List Int) (hs : s.data.toList = enc r ++ seq ms) (hr : 1 ≤ widthZ r) (hl : look fg bg fl = true) (hm : ∀ m ∈ ms, widthZ m = 0) (hc : ms.length ≤ 1000) : Ev (fun k => cell_Right.f k s (widthZ r) fg bg fl) (decide (ms.length ≤ 2)) := by
  have hv := width_valid r (by omega)
  have hlen := enc_len r hv
  have h2 := width_two r
  have hsz : s.size = (enc r).length + (seq ms).length := by rw [← len_size, hs]; simp
  have hf : firstL s.data.toList = (r, ((enc r).length : Int), 0) := by rw [hs]; exact first_enc r hv (seq ms)
  have hk := marks_go ms (s.extract (enc r).length s.size) 0 hm (by rw [toList_extract, hs, List.drop_left, List.take_of_length_le (by omega)]) (by omega)
  obtain ⟨k1, hk⟩ := hk
  refine ⟨max k1 6 + 1, fun k hk' => ?_⟩
  obtain ⟨k, rfl⟩ : ∃ j, k = j + 1 := ⟨k - 1, by omega⟩
  have q := hk k (by omega)
  dsimp only at q ⊢
  unfold cell_Right.f
  rw [if_neg (by rw [nil_size]; omega), first_go s (k + 1) (by omega), hf, Option.bind_some, if_pos rfl, cin_eq, Option.bind_some, if_pos (by simp; omega), uwidth, Option.bind_some]
  dsimp only
  rw [show (widthZ r != widthZ r) = false by simp, cell_Right.j0, if_neg (by decide), look_eq, hl, Option.bind_some, if_pos rfl, if_pos (by omega), if_pos (by omega), Int.toNat_natCast]
  unfold cell_marks.f
  rw [show ((0 : Nat) : Int) = 0 from rfl] at q
  rw [q, Option.bind_some, cin_eq, Option.bind_some]
  congr 1
  rw [Nat.zero_add, show decide ((0 : Int) ≤ (ms.length : Int)) = true by simp, Bool.true_and, decide_eq_decide]
  omega
theorem ap_list (a b : ByteArray) : (a ++ b).data.toList = a.data.toList ++ b.data.toList := by rw [ByteArray.data_append, Array.toList_append]
theorem ap_cut (a b : ByteArray) : ((a ++ b).extract 0 a.size).toList = a.toList := by
  rw [Lib.toList_data, Lib.toList_data, toList_extract, ap_list, List.drop_zero, Nat.sub_zero, ← len_size, List.take_left]
/-- Mark, where the letter is wide, and marks stand behind it. -/
theorem mark_go (s : ByteArray) (r fg bg fl n : Int) (ms : List Int) (hs : s.data.toList = enc r ++ seq ms) (hz : s.size ≤ 900) (hr : 1 ≤ widthZ r) (hl : look fg bg fl = true) (hm : ∀ m ∈ ms, widthZ m = 0) (hc : ms.length ≤ 2) :
    Ev (fun k => cell_Mark.f k s (widthZ r) fg bg fl n) (if widthZ n = 0 then (if ms.length + 1 ≤ 2 then (s ++ txt n, widthZ r, fg, bg, fl, 0) else ((⟨#[]⟩ : ByteArray), 0, 0, 0, 0, 7)) else ((⟨#[]⟩ : ByteArray), 0, 0, 0, 0, 1)) := by
  have h1 := right_go s r fg bg fl ms hs hr hl hm (by omega)
  rw [decide_eq_true hc] at h1
  have hs0 : s.size ≠ 0 := by
    have hlen := enc_len r (width_valid r (by omega))
    have : s.size = (enc r).length + (seq ms).length := by rw [← len_size, hs]; simp
    omega
  by_cases hn : widthZ n = 0
  · have h2 := right_go (s ++ txt n) r fg bg fl (ms ++ [n]) (by rw [ap_list, hs, txt_list n (width_valid n (by omega)), seq, seq, List.flatMap_append, List.append_assoc]; simp) hr hl (fun m h => by
      rcases List.mem_append.1 h with h | h
      · exact hm m h
      · rw [List.mem_singleton.1 h]; exact hn) (by simp; omega)
    have h3 := mark_ev s (widthZ r) fg bg fl n hz true _ h1 h2
    unfold markR at h3
    rw [if_neg (by rintro (h | h | h); cases h; exact hs0 h; exact h hn)] at h3
    rw [if_pos hn]
    simp only [List.length_append, List.length_singleton, decide_eq_true_eq] at h3
    exact h3
  · obtain ⟨b, _, h2, _⟩ := right_eq (s ++ txt n) (widthZ r) fg bg fl (by have := txt_size n; rw [ByteArray.size_append]; omega)
    have h3 := mark_ev s (widthZ r) fg bg fl n hz true b h1 h2
    unfold markR at h3
    rw [if_pos (.inr (.inr hn))] at h3
    rw [if_neg hn]
    exact h3
theorem CellMarks (r m n q cf cb cl : Int) : ∃ k, backseatlaw04_CellMarks.f k r m n q cf cb cl = some true := by
  have hT := cell_alive
  obtain ⟨k5, hT⟩ := hT
  unfold backseatlaw04_CellMarks.f
  rw [of_eq]
  simp only [Option.bind_some]
  by_cases hc : widthZ r < 1 ∨ look cf cb cl = false
  · refine ⟨k5, ?_⟩
    have q5 := hT k5 (by omega)
    dsimp only at q5
    rw [if_pos hc]
    dsimp only
    rw [if_neg (by decide), q5, Option.bind_some, if_pos rfl, emp]
    rfl
  have hw : 1 ≤ widthZ r := by
    have := fun h => hc (.inl h)
    omega
  have hl : look cf cb cl = true := by
    cases h : look cf cb cl with
    | true => rfl
    | false => exact absurd (.inr h) hc
  have hv := width_valid r (by omega)
  have hts := txt_size r
  have htl := txt_list r hv
  have c0 : (txt r).data.toList = enc r ++ seq [] := by rw [htl]; simp [seq]
  obtain ⟨bb, _, B1, _⟩ := right_eq (⟨#[]⟩ : ByteArray) 1 0 cb 0 (by decide)
  obtain ⟨bb2, _, B2, _⟩ := right_eq ((⟨#[]⟩ : ByteArray) ++ txt m) 1 0 cb 0 (by have := txt_size m; rw [ByteArray.size_append, show (⟨#[]⟩ : ByteArray).size = 0 from rfl]; omega)
  have hB := mark_ev (⟨#[]⟩ : ByteArray) 1 0 cb 0 m (by decide) bb bb2 B1 B2
  unfold markR at hB
  rw [if_pos (.inr (.inl rfl))] at hB
  have hC := right_go (txt r) r cf cb cl [] c0 hw hl (fun _ h => by cases h) (by decide)
  have hX := mark_go (txt r) r cf cb cl m [] c0 (by omega) hw hl (fun _ h => by cases h) (by decide)
  obtain ⟨k1, hB⟩ := hB
  obtain ⟨k2, hC⟩ := hC
  obtain ⟨k3, hX⟩ := hX
  suffices hJ : ∃ k4, ∀ k, k4 ≤ k → ∀ x, x = (if widthZ m = 0 then (if ([] : List Int).length + 1 ≤ 2 then (txt r ++ txt m, widthZ r, cf, cb, cl, (0 : Int)) else ((⟨#[]⟩ : ByteArray), 0, 0, 0, 0, 7)) else ((⟨#[]⟩ : ByteArray), 0, 0, 0, 0, 1)) → backseatlaw04_CellMarks.j0 k n q x.2.2.2.2.2 false (txt r) (widthZ r) cf cb cl x.1 x.2.1 x.2.2.1 x.2.2.2.1 x.2.2.2.2.1 = some true by
    obtain ⟨k4, hJ⟩ := hJ
    obtain ⟨k, hk⟩ : ∃ k, k = k1 + k2 + k3 + k4 + k5 + 5 := ⟨_, rfl⟩
    refine ⟨k, ?_⟩
    have q1 := hB k (by omega)
    have q2 := hC k (by omega)
    have q3 := hX k (by omega)
    have q5 := hT k (by omega)
    dsimp only at q1 q2 q3 q5
    rw [if_neg hc]
    dsimp only
    rw [if_pos rfl]
    simp only [cell_Blank.f, Option.bind_some]
    rw [q1, Option.bind_some, q3, Option.bind_some, q2, Option.bind_some, if_pos (by decide), if_pos rfl, q5, Option.bind_some, Bool.not_true]
    exact hJ k (by omega) _ rfl
  by_cases hm : widthZ m = 0
  · rw [if_pos hm, if_pos (by decide)]
    have hvm := width_valid m (by omega)
    have htm := txt_size m
    have c1 : (txt r ++ txt m).data.toList = enc r ++ seq [m] := by rw [ap_list, htl, txt_list m hvm]; simp [seq]
    have z1 : (txt r ++ txt m).size ≤ 8 := by rw [ByteArray.size_append]; omega
    have hY := mark_go (txt r ++ txt m) r cf cb cl n [m] c1 (by omega) hw hl (fun x h => by rw [List.mem_singleton.1 h]; exact hm) (by simp)
    obtain ⟨k6, hY⟩ := hY
    by_cases hn : widthZ n = 0
    · rw [if_pos hn, if_pos (by simp)] at hY
      have hvn := width_valid n (by omega)
      have htn := txt_size n
      have c2 : (txt r ++ txt m ++ txt n).data.toList = enc r ++ seq [m, n] := by rw [ap_list, c1, txt_list n hvn, List.append_assoc]; simp [seq]
      have z2 : (txt r ++ txt m ++ txt n).size ≤ 12 := by rw [ByteArray.size_append]; omega
      have hmn : ∀ x ∈ [m, n], widthZ x = 0 := fun x h => by
        rcases List.mem_cons.1 h with h | h
        · rw [h]; exact hm
        · rw [List.mem_singleton.1 h]; exact hn
      have hZ := mark_go (txt r ++ txt m ++ txt n) r cf cb cl q [m, n] c2 (by omega) hw hl hmn (by simp)
      have hR := right_go (txt r ++ txt m ++ txt n) r cf cb cl [m, n] c2 hw hl hmn (by simp)
      obtain ⟨k7, hZ⟩ := hZ
      obtain ⟨k8, hR⟩ := hR
      refine ⟨k6 + k7 + k8 + 1, fun k hk x hx => ?_⟩
      obtain ⟨k, rfl⟩ : ∃ j, k = j + 1 := ⟨k - 1, by omega⟩
      have p1 := hY k (by omega)
      have p2 := hZ k (by omega)
      have p3 := hR k (by omega)
      dsimp only at p1 p2 p3
      subst hx
      have n1 := enc_len n hvn
      have s1 : (txt n).size = (enc n).length := by rw [← len_size, txt_list n hvn]
      rw [backseatlaw04_CellMarks.j0, if_neg (by decide), if_pos rfl]
      dsimp only
      rw [p1, Option.bind_some]
      dsimp only
      rw [if_pos rfl, p2, Option.bind_some, p3, Option.bind_some, if_pos (by simp), if_pos rfl, if_pos (by rw [ByteArray.size_append (a := txt r ++ txt m)]; omega), if_pos (by omega), if_pos (by rw [ByteArray.size_append (a := txt r ++ txt m)]; omega), Int.toNat_natCast, if_pos (ap_cut _ _), if_pos (by omega), if_pos (by rw [ByteArray.size_append]; omega), Int.toNat_natCast, if_pos (ap_cut _ _)]
      by_cases hq : widthZ q = 0
      · rw [if_pos hq, if_neg (show ¬ ([m, n].length + 1 ≤ 2) by simp)]; rfl
      · rw [if_neg hq]; rfl
    · rw [if_neg hn] at hY
      refine ⟨k6 + 1, fun k hk x hx => ?_⟩
      obtain ⟨k, rfl⟩ : ∃ j, k = j + 1 := ⟨k - 1, by omega⟩
      have p1 := hY k (by omega)
      dsimp only at p1
      subst hx
      rw [backseatlaw04_CellMarks.j0, if_neg (by decide), if_pos rfl]
      dsimp only
      rw [p1, Option.bind_some]
      rfl
  · rw [if_neg hm]
    refine ⟨1, fun k hk x hx => ?_⟩
    obtain ⟨k, rfl⟩ : ∃ j, k = j + 1 := ⟨k - 1, by omega⟩
    subst hx
    rw [backseatlaw04_CellMarks.j0, if_neg (by decide)]
    rfl
end Go.Proofs.YthipdgnbpdngpaaDoor
