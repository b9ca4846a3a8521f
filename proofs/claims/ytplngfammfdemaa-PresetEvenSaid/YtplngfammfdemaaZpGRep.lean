-- A copy of the text YtplngfammfdemaaGRep with what this claim does not reach left out (prune.py, a program of this project).
import Derived.Test.YtplngfammfdemaaZpGMul
import Derived.Laws.IdiomCopy
import Derived.Test.YtplngfammfdemaaZpGInsert
import Derived.Test.YtplngfammfdemaaZpGCont
namespace Go.Proofs.Ytplngfammfdemaa
open Go.RowKit Go.Proofs.YtplngfammfdemaaW.PrintWords Go.Proofs.YtplngfammfdemaaW.PrintLast Go.Proofs.YtplngfammfdemaaW.PrintMore BMul
set_option linter.unusedVariables false
set_option linter.unusedSimpArgs false
/-- A row of the call's own, by what its block holds. -/
theorem R_block {w : World} {base g n : Nat} {xs : List Int} (hb : base ≤ g) (hn : xs.length = n) (hm : n ≤ 1000) (h : w.heap[g]? = some (.cells (xs.map (Value.int .i64)).toArray 3 (0, 0))) : Kd.R (Kd.int .i64) 3 w base (fun _ => True) (.slice (some ⟨g, 0, none⟩) n n) xs := by
  subst hn
  refine ⟨fun _ _ => trivial, xs.map (Value.int .i64), ⟨?_, .inr ⟨g, xs.length, _, rfl, hb, h, Nat.le_refl _, by unfold maxLen; omega, ?_, ?_⟩⟩, ?_⟩
  · show _ = xs.length * 1; simp
  · show _ = xs.length * 1; simp
  · show List.take (xs.length * 1) _ = _; rw [Nat.mul_one]; exact List.take_of_length_le (by simp)
  · refine ⟨by show _ = xs.length * 1; simp, fun j p hj => ?_⟩
    show Kd.M (Kd.int .i64) w base _ p ((List.drop (j * 1) _).take 1)
    have hjl : j < xs.length := (List.getElem?_eq_some_iff.1 hj).1
    have hp : xs[j] = p := (List.getElem?_eq_some_iff.1 hj).2
    rw [Nat.mul_one, List.drop_eq_getElem_cons (by simpa using hjl)]
    simp only [List.take_succ_cons, List.take_zero, List.getElem_map, hp]
    rfl
set_option maxRecDepth 200000 in
theorem mul_small : ∀ n : Nat, n ≤ 8 → bits_Mul.f 1 (n : Int) = some (0, (n : Int)) := by decide +kernel
theorem info3 : ∃ i, Try.prog.info? 3 = some i ∧ i.zero = some (.int .i64 0) ∧ i.size = 1 ∧ i.bytes = 8 := by
  obtain ⟨i, hi, h1, h2, h3⟩ := info_parts (show (Try.prog.info? 3).map (fun i => (i.zero, i.size, i.bytes)) = some (some (.int .i64 0), 1, 8) by kernel_rfl)
  exact ⟨i, hi, h1, h2, h3⟩
/-- m copies, then zeros. -/
def repL (x : Int) (n m : Nat) : List Value := List.replicate m (.int .i64 x) ++ List.replicate (n - m) (.int .i64 0)
theorem repL_len (x : Int) (n m : Nat) (h : m ≤ n) : (repL x n m).length = n := by simp [repL]; omega
theorem repL_splice (x : Int) (n m q : Nat) (h : m + q ≤ n) : splice (repL x n m) m (List.replicate q (.int .i64 x)) = repL x n (m + q) := by
  unfold splice repL
  rw [List.length_replicate, List.take_append_of_le_length (by simp), List.take_of_length_le (by simp)]
  rw [List.drop_append, List.drop_eq_nil_of_le (by simp), List.nil_append, List.length_replicate, List.drop_replicate]
  rw [show m + q - m = q by omega, ← List.replicate_append_replicate (n := m) (m := q), show n - m - q = n - (m + q) by omega, List.append_assoc]
theorem size3 : (Try.prog.info? 3).map (·.size) = some 1 := by kernel_rfl
theorem one_rep (q : Nat) (x : Int) : ∀ v ∈ List.replicate q (Value.int .i64 x), v.oneCell' = true := by
  intro v hv
  rw [List.eq_of_mem_replicate hv]
  rfl
set_option maxRecDepth 200000 in
theorem make_row (n : Nat) (hn : n ≤ 8) (w : World) : (Instr.makeSlice 22 (.int .i64 (n : Int)) (.int .i64 (n : Int))).run Try.prog w = .ok (.slice (some ⟨w.heap.size, 0, none⟩) n n) (w.alloc (.cells (repL 0 n 0).toArray 3)) := by
  obtain ⟨i, hi, h1, h2, h3⟩ := info3
  have := run_make (P := Try.prog) w 22 3 i (.int .i64 0) Try.underlying22 hi h1 .i64 .i64 n n (by omega) (by omega) (by rw [h3]; omega) (by omega)
  rw [this, h2]
  simp only [Int.toNat_natCast, Nat.mul_one]
  have : n = 0 ∨ n = 1 ∨ n = 2 ∨ n = 3 ∨ n = 4 ∨ n = 5 ∨ n = 6 ∨ n = 7 ∨ n = 8 := by omega
  rcases this with rfl | rfl | rfl | rfl | rfl | rfl | rfl | rfl | rfl <;> (congr 3; unfold madeCells; apply Array.ext'; simp [repL, Value.cells, List.replicate] <;> kernel_rfl)
set_option maxHeartbeats 4000000 in
set_option maxRecDepth 200000 in
theorem repeat_one (ad : Addr) (c0 : Nat) (x : Int) (n : Nat) (h1 : 1 ≤ n) (h8 : n ≤ 8) (w : World) (hx : w.cell? ad = some (.int .i64 x)) :
    Calls Try.prog 45 #[.slice (some ad) 1 c0, .int .i64 (n : Int)] w fun e w' => ∃ v0_ : Value, e = .returned (v0_) ∧ Kd.R (Kd.int .i64) 3 w' w.heap.size (fun _ => True) v0_ (List.replicate n x) ∧ Below w.heap.size w w' := by
  have hM := Aside0.mk (mul_small n h8)
  have hmk := make_row n h8
  have hn0 : decide ((n : Int) < 0) = false := decide_eq_false (by omega)
  have hu : IntKind.u64.wrap (n : Int) = n := by rw [IntKind.wrap_u64]; omega
  go_enter Try.func45, Try.ntmps45
  go_wp2_with (first | (go_at_call 88; refine (bits_Mul.calls _ _ _ _ _ hM.out).mono ?_; rintro e w1 ⟨rfl, ⟨nd, rfl⟩⟩))
  have hB0 := below_alloc (pw_below_drewN (Below.refl w.heap.size w) nd) (.cells (repL 0 n 0).toArray 3)
  have hG0 : ((w.drewN nd).alloc (.cells (repL 0 n 0).toArray 3)).heap[w.heap.size]? = some (.cells (repL x n 0).toArray 3 (0, 0)) := blk_new (w.drewN nd) _
  have hx0 : ((w.drewN nd).alloc (.cells (repL 0 n 0).toArray 3)).cell? ad = some (.int .i64 x) := pw_cell_below hB0 hx
  generalize hW : (w.drewN nd).alloc (.cells (repL 0 n 0).toArray 3) = W0 at hB0 hG0 hx0 ⊢
  obtain ⟨w1, hr1, hG1, hB1, hO1⟩ := run_copy_splice (P := Try.prog) W0 22 22 3 3 1 w.heap.size 0 n n ad 1 c0 (repL x n 0) 3 (List.replicate 1 (.int .i64 x)) Try.underlying22 size3 hG0 (by simp only [List.length_replicate, Nat.min_def]; split <;> omega) (by
    intro j v hj
    match j, hj with
    | 0, hj => rw [← Option.some.inj hj]; simpa [Addr.add] using hx0
    | j + 1, hj => simp at hj) (by rw [repL_len _ _ _ (Nat.zero_le _)]; simp; omega) (one_rep 1 x) w.heap.size w hB0 (Nat.le_refl _)
  rw [repL_splice x n 0 1 (by omega)] at hG1
  rw [show Nat.min 1 n = 1 by simp only [Nat.min_def]; split <;> omega] at hr1
  have HG := Aside0.mk hG1
  have HB := Aside0.mk hB1
  clear hG0 hx0 hB0 hG1 hB1 hO1 hW hx
  rw [hr1]
  clear hr1
  go_wp2
  go_loopg [8] n (fun kq v8 w' => ∃ m : Nat, v8 = .int .i64 (m : Int) ∧ Aside0 (1 ≤ m ∧ m ≤ n ∧ n ≤ m + kq) ∧ Aside0 (w'.heap[w.heap.size]? = some (.cells (repL x n m).toArray 3 (0, 0))) ∧ Aside0 (Below w.heap.size w w'))
  case atStart => exact ⟨1, rfl, ⟨by omega⟩, HG, HB⟩
  case round =>
    clear HG HB
    obtain ⟨m, rfl, HK, HG, HB⟩ := hrel
    have hk := HK.out
    by_cases hc : m < n
    · cases gk with
      | zero => omega
      | succ k1 =>
        have c4b0 : decide ((m : Int) < (n : Int)) = true := decide_eq_true (by omega)
        obtain ⟨w2, hr2, hG2, hB2, hO2⟩ := run_copy_splice (P := Try.prog) wr.drew 22 22 3 3 1 w.heap.size m (n - m) (n - m) ⟨w.heap.size, 0, none⟩ m n (repL x n m) 3 (List.replicate (Nat.min m (n - m)) (.int .i64 x)) Try.underlying22 size3 (blk_drew HG.out) (by rw [List.length_replicate, Nat.mul_one]) (by
          intro j v hj
          have hjl := (List.getElem?_eq_some_iff.1 hj).1
          rw [List.length_replicate] at hjl
          have hjm : j < m := Nat.lt_of_lt_of_le hjl (Nat.min_le_left _ _)
          rw [List.getElem?_replicate, if_pos hjl] at hj
          rw [addr_add, blk_cell (blk_drew HG.out), List.getElem?_toArray, Nat.zero_add]
          unfold repL
          rw [List.getElem?_append_left (by rw [List.length_replicate]; exact hjm), List.getElem?_replicate, if_pos hjm, hj]) (by rw [repL_len _ _ _ (by omega), List.length_replicate]; have : Nat.min m (n - m) ≤ n - m := Nat.min_le_right _ _; omega) (one_rep _ x) w.heap.size w (below_drew HB.out) (Nat.le_refl _)
        have hq1 : Nat.min m (n - m) ≤ n - m := Nat.min_le_right _ _
        have hq2 : 1 ≤ Nat.min m (n - m) := by simp only [Nat.min_def]; split <;> omega
        rw [repL_splice x n m _ (by omega)] at hG2
        generalize hq : Nat.min m (n - m) = q at hr2 hG2 hq1 hq2
        have HG2 := Aside0.mk hG2
        have HB2 := Aside0.mk hB2
        have HQ := Aside0.mk (show m + q ≤ n ∧ 1 ≤ q by omega)
        have n1 : (0 : Int) ≤ (m : Int) := by omega
        have n2 : (m : Int) ≤ (n : Int) := by omega
        have n3 : (n = m) = False := eq_false (by omega)
        have n4 : (m = n) = False := eq_false (by omega)
        have n5 : (m < n) = True := eq_true (by omega)
        clear hG2 hB2 hO2 hq hq1 hq2 hk hc
        go_wp2
        go_region_law (refine step_copy_run rfl (.tmp 41) (.tmp 44) 22 22 rfl _ _ (by simp [Act.eval, Act.put]) (by simp [Act.eval, Act.put]) hr2 ?_)
        have hQ := HQ.out
        go_wp2
        go_roundg k1
        case measure => omega
        case rel => exact ⟨m + q, by congr 1; rw [IntKind.wrap_i64]; omega, ⟨by have := HK.out; omega⟩, HG2, HB2⟩
    · have c4b0 : decide ((m : Int) < (n : Int)) = false := decide_eq_false (by omega)
      have e : m = n := by omega
      subst e
      clear hk hc
      go_wp2
      go_ret
      refine ⟨_, rfl, R_block (Nat.le_refl _) (List.length_replicate ..) (by omega) ?_, HB.out⟩
      have := HG.out
      unfold repL at this
      rw [Nat.sub_self, List.replicate_zero, List.append_nil] at this
      rw [List.map_replicate]
      exact this
def slices_Repeat_int_int.f (l : List Int) (n : Int) : Option (List Int) :=
  match l with
  | [x] => if 1 ≤ n ∧ n ≤ 8 then some (List.replicate n.toNat x) else none
  | _ => none
theorem slices_Repeat_int_int.calls (A0 : Option Addr) (c0 : Nat) (l0 : List Int) (a1 : Int) (r : List Int) (w : World) (hr0 : Kd.C (Kd.int .i64) w A0 l0.length l0) (hc0 : l0.length ≤ c0) (h : slices_Repeat_int_int.f l0 a1 = some r) :
    Calls Try.prog 45 #[.slice A0 l0.length c0, .int .i64 a1] w fun e w' => ∃ v0_ : Value, e = .returned (v0_) ∧ Kd.R (Kd.int .i64) 3 w' w.heap.size (fun _ => True) v0_ r ∧ Below w.heap.size w w' := by
  match l0, hr0, h with
  | [x], hr0, h =>
    simp only [slices_Repeat_int_int.f] at h
    split at h
    · rename_i hn
      obtain ⟨n, rfl⟩ := Int.eq_ofNat_of_zero_le (show 0 ≤ a1 by omega)
      obtain rfl := Option.some.inj h
      obtain ⟨ad, rfl, hx⟩ := at_i64 hr0 0 (by simp)
      rw [Int.toNat_natCast]
      refine repeat_one ad c0 x n (by omega) (by omega) w ?_
      rwa [Addr.add_zero'] at hx
    · cases h
end Go.Proofs.Ytplngfammfdemaa
