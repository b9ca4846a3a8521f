-- Copies of the texts YtplngfammfdemaaGInsert, YtplngfammfdemaaGCont, YtplngfammfdemaaGRep, YtplngfammfdemaaGShort, YtplngfammfdemaaQx3, YtplngfammfdemaaQx14 with what this claim does not reach left out (prune.py, a program of this project).
import Derived.Test.YtplngfammfdemaaZtGDelete
import Derived.Lib.Overlaps
import Derived.Lib.AppendZeros
import Derived.Lib.AppendZerosOnto
import Derived.Laws.Externs
import Derived.Test.YtplngfammfdemaaZtGMul
import Derived.Laws.IdiomCopy
import Derived.Test.YtplngfammfdemaaZtWMore
import Derived.Test.YtplngfammfdemaaZtWLast
section
namespace Go.Proofs.Ytplngfammfdemaa
open Go.RowKit Go.Proofs.YtplngfammfdemaaW.PrintWords Go.Proofs.YtplngfammfdemaaW.PrintLast Go.Proofs.YtplngfammfdemaaW.PrintMore P
set_option linter.unusedVariables false
set_option linter.unusedSimpArgs false
/-- copy as one step of a region that draws, its run known. -/
theorem step_copy_run {P : Program} {ops : Array Oper} {o : Oper} {a : Act} {w : World} {K : Act → World → Prop} {Q : Exit → Act → World → Prop} {E : Prop}
    (hg : o.guard = none) (d x : Operand) (dT sT : TypeId) (hop : o.op = Op.call { callee := Callee.builtin Builtin.copy, args := #[d, x], argTypes := #[dT, sT] })
    (v u : Value) (hd : a.eval d = v) (hx : a.eval x = u) {v' : Value} {w' : World} (hr : (Builtin.copy_ #[dT, sT] o.type #[v, u]).run P w = .ok v' w') (hK : K (a.put o.dst v') w') :
    if Region.wanted o (yielded ops a.tmps) = true then Oper.wp P o a w K Q else E := by
  have hw : Region.wanted o (yielded ops a.tmps) = true := by simp [Region.wanted, hg]
  rw [if_pos hw]
  unfold Oper.wp
  simp [execOp, hop, resolve, invoke, builtin, hd, hx, hr, Result.andThen]
  exact hK
end Go.Proofs.Ytplngfammfdemaa
end
section
namespace Go.Proofs.Ytplngfammfdemaa
open Go.RowKit Go.Proofs.YtplngfammfdemaaW.PrintWords Go.Proofs.YtplngfammfdemaaW.PrintLast Go.Proofs.YtplngfammfdemaaW.PrintMore P
set_option linter.unusedVariables false
set_option linter.unusedSimpArgs false
theorem at_i64 {w : World} {A : Option Addr} {l : List Int} (h : Kd.C (Kd.int .i64) w A l.length l) (i : Nat) (hi : i < l.length) : ∃ ad, A = some ad ∧ w.cell? (ad.add i) = some (.int .i64 l[i]) := by
  obtain ⟨ad, e, hc⟩ := Kd.at_int h (i : Int) (by omega) (by omega)
  refine ⟨ad, e, ?_⟩
  rw [Int.toNat_natCast] at hc
  rw [hc]
  unfold rd
  rw [Int.toNat_natCast, List.getD_eq_getElem?_getD, List.getElem?_eq_getElem hi]
  rfl
def idxZ (c : Int) (l : List Int) : Int := match l.findIdx? (fun x => c == x) with | some i => (i : Int) | none => -1
theorem idxZ_at {c : Int} {l : List Int} {i : Nat} (hi : i < l.length) (h : ∀ j : Nat, (hj : j < i) → c ≠ l[j]'(by omega)) (hp : c = l[i]) : idxZ c l = i := by
  have : l.findIdx? (fun x => c == x) = some i := by
    rw [List.findIdx?_eq_some_iff_getElem]
    exact ⟨hi, by simp [hp], fun j hj => by simpa using h j hj⟩
  unfold idxZ; rw [this]
theorem idxZ_none {c : Int} {l : List Int} (h : ∀ j : Nat, (hj : j < l.length) → c ≠ l[j]) : idxZ c l = -1 := by
  have : l.findIdx? (fun x => c == x) = none := by
    rw [List.findIdx?_eq_none_iff]
    intro x hx
    obtain ⟨j, hj, rfl⟩ := List.getElem_of_mem hx
    simpa using h j hj
  unfold idxZ; rw [this]
theorem idxZ_mem (c : Int) (l : List Int) : decide (0 ≤ idxZ c l) = decide (c ∈ l) := by
  unfold idxZ
  cases h : l.findIdx? (fun x => c == x) with
  | none =>
    rw [List.findIdx?_eq_none_iff] at h
    simp only [Int.reduceNeg, Int.reduceLE, decide_false]
    symm
    rw [decide_eq_false_iff_not]
    intro hm
    have := h c hm
    simp at this
  | some i =>
    rw [List.findIdx?_eq_some_iff_getElem] at h
    obtain ⟨hi, hp, _⟩ := h
    have e : c = l[i] := by simpa using hp
    rw [show decide (0 ≤ (i : Int)) = true by simp]
    symm
    rw [decide_eq_true_iff, e]
    exact List.getElem_mem hi
set_option maxHeartbeats 4000000 in
set_option maxRecDepth 100000 in
theorem index_any (A : Option Addr) (c0 : Nat) (l : List Int) (c : Int) (w : World) (hC : Kd.C (Kd.int .i64) w A l.length l) (hlen : l.length < 1000000000000000000) (r : Int) (hr : idxZ c l = r) :
    Calls Try.prog 87 #[.slice A l.length c0, .int .i64 c] w fun e w' => e = .returned (.int .i64 r) ∧ w = w' := by
  have HC := Aside0.mk hC
  have HL := Aside0.mk hlen
  clear hC hlen
  go_enter Try.func87, Try.ntmps87
  go_wp2
  go_loopg [5, 8] l.length (fun kq v5 v8 w' => w' = w ∧ ∃ i : Nat, v8 = .int .i64 (i : Int) ∧ Aside0 (i + kq = l.length) ∧ Aside0 (∀ j : Nat, (hj : j < i) → (hl : j < l.length) → c ≠ l[j]))
  case atStart => exact ⟨rfl, 0, rfl, ⟨by omega⟩, ⟨fun j hj => absurd hj (by omega)⟩⟩
  case round =>
    obtain ⟨rfl, i, rfl, HK, HA⟩ := hrel
    have hk := HK.out
    have hl := HL.out
    cases gk with
    | zero =>
      have c4b0 : decide ((i : Int) < (l.length : Int)) = false := decide_eq_false (by omega)
      rw [idxZ_none (c := c) (l := l) (fun j hj => HA.out j (by omega) hj)] at hr
      subst hr
      go_wp2
      go_ret
      exact ⟨rfl, rfl⟩
    | succ k1 =>
      have hil : i < l.length := by omega
      have c4b0 : decide ((i : Int) < (l.length : Int)) = true := decide_eq_true (by omega)
      have p228 : (0 ≤ (i : Int)) = True := eq_true (by omega)
      have q228 : ((i : Int) < (l.length : Int)) = True := eq_true (by omega)
      obtain ⟨ad, rfl, hx⟩ := at_i64 HC.out i hil
      by_cases hc : c = l[i]
      · rw [idxZ_at hil (fun j hj => HA.out j hj (by omega)) hc] at hr
        subst hr
        have hc' : (c == l[i]) = true := beq_iff_eq.2 hc
        generalize l[i] = y at hx hc' hc
        clear hc
        go_wp2
        go_ret
        exact ⟨rfl, rfl⟩
      · have hc' : (c == l[i]) = false := beq_eq_false_iff_ne.2 hc
        have HN := Aside0.mk hc
        have HA1 : Aside0 (∀ j : Nat, (hj : j < i + 1) → (hl : j < l.length) → c ≠ l[j]) := ⟨fun j hj hl => by
          by_cases e : j = i
          · subst e; exact hc
          · exact HA.out j (by omega) hl⟩
        generalize l[i] = y at hx hc' hc HN
        clear hc
        go_wp2
        go_roundg k1
        case measure => omega
        case rel => exact ⟨rfl, i + 1, by first | rfl | (congr 1; first | omega | (unfold wrap64; omega)), ⟨by omega⟩, HA1⟩
set_option maxHeartbeats 4000000 in
set_option maxRecDepth 100000 in
theorem contains_any (A : Option Addr) (c0 : Nat) (l : List Int) (c : Int) (w : World) (hC : Kd.C (Kd.int .i64) w A l.length l) (hlen : l.length < 1000000000000000000) :
    Calls Try.prog 51 #[.slice A l.length c0, .int .i64 c] w fun e w' => e = .returned (.bool (decide (c ∈ l))) ∧ w = w' := by
  have HI := Aside0.mk (index_any A c0 l c w hC hlen _ rfl)
  rw [← idxZ_mem]
  generalize idxZ c l = z at HI ⊢
  clear hC hlen
  go_enter Try.func51, Try.ntmps51
  go_wp2_with (go_at_call 87; refine HI.out.mono ?_; rintro e w1 ⟨rfl, rfl⟩)
  go_ret
  exact ⟨rfl, rfl⟩
end Go.Proofs.Ytplngfammfdemaa
end
section
namespace Go.Proofs.Ytplngfammfdemaa
open Go.RowKit Go.Proofs.YtplngfammfdemaaW.PrintWords Go.Proofs.YtplngfammfdemaaW.PrintLast Go.Proofs.YtplngfammfdemaaW.PrintMore BMul
set_option linter.unusedVariables false
set_option linter.unusedSimpArgs false
/-- A row of the call's own, by what its block holds. -/
theorem R_block {w : World} {base g n : Nat} {xs : List Int} (hb : base ≤ g) (hn : xs.length = n) (hm : n ≤ 1000) (h : w.heap[g]? = some (.cells (xs.map (Value.int .i64)).toArray 3 (0, 0))) : Kd.R (Kd.int .i64) 3 w base (fun _ => True) (.slice (some ⟨g, 0, none⟩) n n) xs := by
  subst hn
  refine ⟨fun _ _ => trivial, xs.map (Value.int .i64), ⟨?_, .inr ⟨g, xs.length, _, rfl, hb, h, Nat.le_refl _, by unfold maxLen; omega, ?_, ?_⟩⟩, ?_⟩
  · show _ = xs.length * 1; simp
  · show _ = xs.length * 1; simp
  · show List.take (xs.length * 1) _ = _; rw [Nat.mul_one]; exact List.take_of_length_le (by simp)
  · refine ⟨by show _ = xs.length * 1; simp, fun j p hj => ?_⟩
    show Kd.M (Kd.int .i64) w base _ p ((List.drop (j * 1) _).take 1)
    have hjl : j < xs.length := (List.getElem?_eq_some_iff.1 hj).1
    have hp : xs[j] = p := (List.getElem?_eq_some_iff.1 hj).2
    rw [Nat.mul_one, List.drop_eq_getElem_cons (by simpa using hjl)]
    simp only [List.take_succ_cons, List.take_zero, List.getElem_map, hp]
    rfl
set_option maxRecDepth 200000 in
theorem mul_small : ∀ n : Nat, n ≤ 8 → bits_Mul.f 1 (n : Int) = some (0, (n : Int)) := by decide +kernel
theorem info3 : ∃ i, Try.prog.info? 3 = some i ∧ i.zero = some (.int .i64 0) ∧ i.size = 1 ∧ i.bytes = 8 := by
  obtain ⟨i, hi, h1, h2, h3⟩ := info_parts (show (Try.prog.info? 3).map (fun i => (i.zero, i.size, i.bytes)) = some (some (.int .i64 0), 1, 8) by kernel_rfl)
  exact ⟨i, hi, h1, h2, h3⟩
/-- m copies, then zeros. -/
def repL (x : Int) (n m : Nat) : List Value := List.replicate m (.int .i64 x) ++ List.replicate (n - m) (.int .i64 0)
theorem repL_len (x : Int) (n m : Nat) (h : m ≤ n) : (repL x n m).length = n := by simp [repL]; omega
theorem repL_splice (x : Int) (n m q : Nat) (h : m + q ≤ n) : splice (repL x n m) m (List.replicate q (.int .i64 x)) = repL x n (m + q) := by
  unfold splice repL
  rw [List.length_replicate, List.take_append_of_le_length (by simp), List.take_of_length_le (by simp)]
  rw [List.drop_append, List.drop_eq_nil_of_le (by simp), List.nil_append, List.length_replicate, List.drop_replicate]
  rw [show m + q - m = q by omega, ← List.replicate_append_replicate (n := m) (m := q), show n - m - q = n - (m + q) by omega, List.append_assoc]
theorem size3 : (Try.prog.info? 3).map (·.size) = some 1 := by kernel_rfl
theorem one_rep (q : Nat) (x : Int) : ∀ v ∈ List.replicate q (Value.int .i64 x), v.oneCell' = true := by
  intro v hv
  rw [List.eq_of_mem_replicate hv]
  rfl
set_option maxRecDepth 200000 in
theorem make_row (n : Nat) (hn : n ≤ 8) (w : World) : (Instr.makeSlice 22 (.int .i64 (n : Int)) (.int .i64 (n : Int))).run Try.prog w = .ok (.slice (some ⟨w.heap.size, 0, none⟩) n n) (w.alloc (.cells (repL 0 n 0).toArray 3)) := by
  obtain ⟨i, hi, h1, h2, h3⟩ := info3
  have := run_make (P := Try.prog) w 22 3 i (.int .i64 0) Try.underlying22 hi h1 .i64 .i64 n n (by omega) (by omega) (by rw [h3]; omega) (by omega)
  rw [this, h2]
  simp only [Int.toNat_natCast, Nat.mul_one]
  have : n = 0 ∨ n = 1 ∨ n = 2 ∨ n = 3 ∨ n = 4 ∨ n = 5 ∨ n = 6 ∨ n = 7 ∨ n = 8 := by omega
  rcases this with rfl | rfl | rfl | rfl | rfl | rfl | rfl | rfl | rfl <;> (congr 3; unfold madeCells; apply Array.ext'; simp [repL, Value.cells, List.replicate] <;> kernel_rfl)
set_option maxHeartbeats 4000000 in
set_option maxRecDepth 200000 in
theorem repeat_one (ad : Addr) (c0 : Nat) (x : Int) (n : Nat) (h1 : 1 ≤ n) (h8 : n ≤ 8) (w : World) (hx : w.cell? ad = some (.int .i64 x)) :
    Calls Try.prog 45 #[.slice (some ad) 1 c0, .int .i64 (n : Int)] w fun e w' => ∃ v0_ : Value, e = .returned (v0_) ∧ Kd.R (Kd.int .i64) 3 w' w.heap.size (fun _ => True) v0_ (List.replicate n x) ∧ Below w.heap.size w w' := by
  have hM := Aside0.mk (mul_small n h8)
  have hmk := make_row n h8
  have hn0 : decide ((n : Int) < 0) = false := decide_eq_false (by omega)
  have hu : IntKind.u64.wrap (n : Int) = n := by rw [IntKind.wrap_u64]; omega
  go_enter Try.func45, Try.ntmps45
  go_wp2_with (first | (go_at_call 88; refine (bits_Mul.calls _ _ _ _ _ hM.out).mono ?_; rintro e w1 ⟨rfl, ⟨nd, rfl⟩⟩))
  have hB0 := below_alloc (pw_below_drewN (Below.refl w.heap.size w) nd) (.cells (repL 0 n 0).toArray 3)
  have hG0 : ((w.drewN nd).alloc (.cells (repL 0 n 0).toArray 3)).heap[w.heap.size]? = some (.cells (repL x n 0).toArray 3 (0, 0)) := blk_new (w.drewN nd) _
  have hx0 : ((w.drewN nd).alloc (.cells (repL 0 n 0).toArray 3)).cell? ad = some (.int .i64 x) := pw_cell_below hB0 hx
  generalize hW : (w.drewN nd).alloc (.cells (repL 0 n 0).toArray 3) = W0 at hB0 hG0 hx0 ⊢
  obtain ⟨w1, hr1, hG1, hB1, hO1⟩ := run_copy_splice (P := Try.prog) W0 22 22 3 3 1 w.heap.size 0 n n ad 1 c0 (repL x n 0) 3 (List.replicate 1 (.int .i64 x)) Try.underlying22 size3 hG0 (by simp only [List.length_replicate, Nat.min_def]; split <;> omega) (by
    intro j v hj
    match j, hj with
    | 0, hj => rw [← Option.some.inj hj]; simpa [Addr.add] using hx0
    | j + 1, hj => simp at hj) (by rw [repL_len _ _ _ (Nat.zero_le _)]; simp; omega) (one_rep 1 x) w.heap.size w hB0 (Nat.le_refl _)
  rw [repL_splice x n 0 1 (by omega)] at hG1
  rw [show Nat.min 1 n = 1 by simp only [Nat.min_def]; split <;> omega] at hr1
  have HG := Aside0.mk hG1
  have HB := Aside0.mk hB1
  clear hG0 hx0 hB0 hG1 hB1 hO1 hW hx
  rw [hr1]
  clear hr1
  go_wp2
  go_loopg [8] n (fun kq v8 w' => ∃ m : Nat, v8 = .int .i64 (m : Int) ∧ Aside0 (1 ≤ m ∧ m ≤ n ∧ n ≤ m + kq) ∧ Aside0 (w'.heap[w.heap.size]? = some (.cells (repL x n m).toArray 3 (0, 0))) ∧ Aside0 (Below w.heap.size w w'))
  case atStart => exact ⟨1, rfl, ⟨by omega⟩, HG, HB⟩
  case round =>
    clear HG HB
    obtain ⟨m, rfl, HK, HG, HB⟩ := hrel
    have hk := HK.out
    by_cases hc : m < n
    · cases gk with
      | zero => omega
      | succ k1 =>
        have c4b0 : decide ((m : Int) < (n : Int)) = true := decide_eq_true (by omega)
        obtain ⟨w2, hr2, hG2, hB2, hO2⟩ := run_copy_splice (P := Try.prog) wr.drew 22 22 3 3 1 w.heap.size m (n - m) (n - m) ⟨w.heap.size, 0, none⟩ m n (repL x n m) 3 (List.replicate (Nat.min m (n - m)) (.int .i64 x)) Try.underlying22 size3 (blk_drew HG.out) (by rw [List.length_replicate, Nat.mul_one]) (by
          intro j v hj
          have hjl := (List.getElem?_eq_some_iff.1 hj).1
          rw [List.length_replicate] at hjl
          have hjm : j < m := Nat.lt_of_lt_of_le hjl (Nat.min_le_left _ _)
          rw [List.getElem?_replicate, if_pos hjl] at hj
          rw [addr_add, blk_cell (blk_drew HG.out), List.getElem?_toArray, Nat.zero_add]
          unfold repL
          rw [List.getElem?_append_left (by rw [List.length_replicate]; exact hjm), List.getElem?_replicate, if_pos hjm, hj]) (by rw [repL_len _ _ _ (by omega), List.length_replicate]; have : Nat.min m (n - m) ≤ n - m := Nat.min_le_right _ _; omega) (one_rep _ x) w.heap.size w (below_drew HB.out) (Nat.le_refl _)
        have hq1 : Nat.min m (n - m) ≤ n - m := Nat.min_le_right _ _
        have hq2 : 1 ≤ Nat.min m (n - m) := by simp only [Nat.min_def]; split <;> omega
        rw [repL_splice x n m _ (by omega)] at hG2
        generalize hq : Nat.min m (n - m) = q at hr2 hG2 hq1 hq2
        have HG2 := Aside0.mk hG2
        have HB2 := Aside0.mk hB2
        have HQ := Aside0.mk (show m + q ≤ n ∧ 1 ≤ q by omega)
        have n1 : (0 : Int) ≤ (m : Int) := by omega
        have n2 : (m : Int) ≤ (n : Int) := by omega
        have n3 : (n = m) = False := eq_false (by omega)
        have n4 : (m = n) = False := eq_false (by omega)
        have n5 : (m < n) = True := eq_true (by omega)
        clear hG2 hB2 hO2 hq hq1 hq2 hk hc
        go_wp2
        go_region_law (refine step_copy_run rfl (.tmp 41) (.tmp 44) 22 22 rfl _ _ (by simp [Act.eval, Act.put]) (by simp [Act.eval, Act.put]) hr2 ?_)
        have hQ := HQ.out
        go_wp2
        go_roundg k1
        case measure => omega
        case rel => exact ⟨m + q, by congr 1; rw [IntKind.wrap_i64]; omega, ⟨by have := HK.out; omega⟩, HG2, HB2⟩
    · have c4b0 : decide ((m : Int) < (n : Int)) = false := decide_eq_false (by omega)
      have e : m = n := by omega
      subst e
      clear hk hc
      go_wp2
      go_ret
      refine ⟨_, rfl, R_block (Nat.le_refl _) (List.length_replicate ..) (by omega) ?_, HB.out⟩
      have := HG.out
      unfold repL at this
      rw [Nat.sub_self, List.replicate_zero, List.append_nil] at this
      rw [List.map_replicate]
      exact this
def slices_Repeat_int_int.f (l : List Int) (n : Int) : Option (List Int) :=
  match l with
  | [x] => if 1 ≤ n ∧ n ≤ 8 then some (List.replicate n.toNat x) else none
  | _ => none
theorem slices_Repeat_int_int.calls (A0 : Option Addr) (c0 : Nat) (l0 : List Int) (a1 : Int) (r : List Int) (w : World) (hr0 : Kd.C (Kd.int .i64) w A0 l0.length l0) (hc0 : l0.length ≤ c0) (h : slices_Repeat_int_int.f l0 a1 = some r) :
    Calls Try.prog 45 #[.slice A0 l0.length c0, .int .i64 a1] w fun e w' => ∃ v0_ : Value, e = .returned (v0_) ∧ Kd.R (Kd.int .i64) 3 w' w.heap.size (fun _ => True) v0_ r ∧ Below w.heap.size w w' := by
  match l0, hr0, h with
  | [x], hr0, h =>
    simp only [slices_Repeat_int_int.f] at h
    split at h
    · rename_i hn
      obtain ⟨n, rfl⟩ := Int.eq_ofNat_of_zero_le (show 0 ≤ a1 by omega)
      obtain rfl := Option.some.inj h
      obtain ⟨ad, rfl, hx⟩ := at_i64 hr0 0 (by simp)
      rw [Int.toNat_natCast]
      refine repeat_one ad c0 x n (by omega) (by omega) w ?_
      rwa [Addr.add_zero'] at hx
    · cases h
end Go.Proofs.Ytplngfammfdemaa
end
section
namespace Go.Proofs.Ytplngfammfdemaa
open Go.RowKit Go.Proofs.YtplngfammfdemaaW.PrintWords Go.Proofs.YtplngfammfdemaaW.PrintLast
theorem bb {w w1 : World} {g : Nat} {o : Obj} (hb : Below w.heap.size w w1) (h : w.heap[g]? = some o) : w1.heap[g]? = some o := blk_below h hb
theorem lt1 {w : World} {g : Nat} {o : Obj} (h : w.heap[g]? = some o) : g ≠ w.heap.size := Nat.ne_of_lt (blk_lt h)
theorem gt1 {w : World} {g : Nat} {o : Obj} (h : w.heap[g]? = some o) : w.heap.size ≠ g := Nat.ne_of_gt (blk_lt h)
theorem s1 {α : Type} {a : List α} {i : Nat} {v : α} : a.toArray.setIfInBounds i v = (a.set i v).toArray := List.setIfInBounds_toArray _ _ _
theorem s2 {α : Type} {a : α} {l : List α} {v : α} : (a :: l).set 0 v = v :: l := List.set_cons_zero
theorem s3 {α : Type} {a : α} {l : List α} {i : Nat} {v : α} : (a :: l).set (i + 1) v = a :: l.set i v := List.set_cons_succ
def mk_ (n b : Nat) : Array Bool := ((List.range n).map fun i => b.testBit i).toArray
section
variable {P : Program} {md : Region.Mode} {ops : Array Oper} {Q : Exit → Act → World → Prop} {S : World → Prop} {ds : List Nat}
theorem pv {T : Bool × List (List Nat × List Nat)} {oi : Oper} {v : Value} {fuel : Nat} {l : Array Bool} {a : Act} {w : World} {a' : Act} (hT : rtab md ops = T) (i : Nat) (N : Option Tmp) (l' : Array Bool)
    (hr : ∀ w, (execOp a.eval oi).run P w = .ok (.value v) w) (ha : a.put N v = a') (h : wpAnyLast P md ops Q S ds fuel l' a' w) (hi : ops[i]? = some oi := by rfl) (hN : oi.dst = N := by rfl) (hc : anyT T l.toList l'.toList i = true := by kernel_rfl)
    (hQ : ∀ c a w, Q (.panic c) (a.put oi.dst v) w → Q (.panic c) a w := by exact fun _ _ _ h => h) (hw : Region.wanted oi (yielded ops a.tmps) = true := by rfl) : wpAnyLast P md ops Q S ds (fuel + 1) l a w := pure_ l' hi hN (any_of hT hc) hQ (Or.inl ⟨hw, hr⟩) ha h
theorem ga {rest : List Oper} {oi : Oper} {a : Act} {w : World} (N : Option Tmp) (hd : oi.dst = N) (hg : oi.guard = none) {f : FuncId} {fn : Func} {os_ : Array Operand} {ts : Array TypeId} (hf : P.funcs[f]? = some fn) (hname : (fn.name == "runtime.NumGoroutine") = false) (hb : fn.body.isSome = true) (args : Array Value)
    (hop : oi.op = .call { callee := .value (.func f), args := os_, argTypes := ts }) (h : Calls P f args w fun e w' => ∃ v, e = .returned v ∧ wpList P ops Q rest (a.put N v) w') (hargs : os_.map a.eval = args := by (try simp only [List.map_toArray, List.map_cons, List.map_nil]); first | done | rfl | (simp only [List.length_drop, List.length_take]; rfl)) : wpList P ops Q (oi :: rest) a w := goesL_ N hd hg hf hname hb args hop hargs h
end
theorem put4 {w : World} {g : Nat} {t : TypeId} {u0 u1 u2 u3 v0 v1 v2 v3 : Value} (h : w.heap[g]? = some (.cells #[u0, u1, u2, u3] t (0, 0))) : ((((w.setCell ⟨g, 0, none⟩ v0).setCell ⟨g, 1, none⟩ v1).setCell ⟨g, 2, none⟩ v2).setCell ⟨g, 3, none⟩ v3).heap[g]? = some (.cells #[v0, v1, v2, v3] t (0, 0)) := blk_put (blk_put (blk_put (blk_put (h) 0 _ rfl) 1 _ rfl) 2 _ rfl) 3 _ rfl
theorem far4 {w : World} {g g' : Nat} {t : TypeId} {cs : Array Value} {v0 v1 v2 v3 : Value} (hp : g ≠ g') (h : w.heap[g]? = some (.cells cs t (0, 0))) : ((((w.setCell ⟨g', 0, none⟩ v0).setCell ⟨g', 1, none⟩ v1).setCell ⟨g', 2, none⟩ v2).setCell ⟨g', 3, none⟩ v3).heap[g]? = some (.cells cs t (0, 0)) := blk_far (blk_far (blk_far (blk_far (h) hp _) hp _) hp _) hp _
theorem put5 {w : World} {g : Nat} {t : TypeId} {u0 u1 u2 u3 u4 v0 v1 v2 v3 v4 : Value} (h : w.heap[g]? = some (.cells #[u0, u1, u2, u3, u4] t (0, 0))) : (((((w.setCell ⟨g, 0, none⟩ v0).setCell ⟨g, 1, none⟩ v1).setCell ⟨g, 2, none⟩ v2).setCell ⟨g, 3, none⟩ v3).setCell ⟨g, 4, none⟩ v4).heap[g]? = some (.cells #[v0, v1, v2, v3, v4] t (0, 0)) := blk_put (blk_put (blk_put (blk_put (blk_put (h) 0 _ rfl) 1 _ rfl) 2 _ rfl) 3 _ rfl) 4 _ rfl
theorem far5 {w : World} {g g' : Nat} {t : TypeId} {cs : Array Value} {v0 v1 v2 v3 v4 : Value} (hp : g ≠ g') (h : w.heap[g]? = some (.cells cs t (0, 0))) : (((((w.setCell ⟨g', 0, none⟩ v0).setCell ⟨g', 1, none⟩ v1).setCell ⟨g', 2, none⟩ v2).setCell ⟨g', 3, none⟩ v3).setCell ⟨g', 4, none⟩ v4).heap[g]? = some (.cells cs t (0, 0)) := blk_far (blk_far (blk_far (blk_far (blk_far (h) hp _) hp _) hp _) hp _) hp _
theorem cz4 {w : World} {g : Nat} {t : TypeId} {u0 u1 u2 u3 : Value} (h : w.heap[g]? = some (.cells #[u0, u1, u2, u3] t (0, 0))) : w.cell? ⟨g, 0, none⟩ = some u0 ∧ w.cell? ⟨g, 1, none⟩ = some u1 ∧ w.cell? ⟨g, 2, none⟩ = some u2 ∧ w.cell? ⟨g, 3, none⟩ = some u3 ∧ w.frozen? ⟨g, 0, none⟩ = false ∧ w.frozen? ⟨g, 1, none⟩ = false ∧ w.frozen? ⟨g, 2, none⟩ = false ∧ w.frozen? ⟨g, 3, none⟩ = false := ⟨(blk_cell h 0).trans rfl, (blk_cell h 1).trans rfl, (blk_cell h 2).trans rfl, (blk_cell h 3).trans rfl, blk_frozen h 0, blk_frozen h 1, blk_frozen h 2, blk_frozen h 3⟩
theorem cz5 {w : World} {g : Nat} {t : TypeId} {u0 u1 u2 u3 u4 : Value} (h : w.heap[g]? = some (.cells #[u0, u1, u2, u3, u4] t (0, 0))) : w.cell? ⟨g, 0, none⟩ = some u0 ∧ w.cell? ⟨g, 1, none⟩ = some u1 ∧ w.cell? ⟨g, 2, none⟩ = some u2 ∧ w.cell? ⟨g, 3, none⟩ = some u3 ∧ w.cell? ⟨g, 4, none⟩ = some u4 ∧ w.frozen? ⟨g, 0, none⟩ = false ∧ w.frozen? ⟨g, 1, none⟩ = false ∧ w.frozen? ⟨g, 2, none⟩ = false ∧ w.frozen? ⟨g, 3, none⟩ = false ∧ w.frozen? ⟨g, 4, none⟩ = false := ⟨(blk_cell h 0).trans rfl, (blk_cell h 1).trans rfl, (blk_cell h 2).trans rfl, (blk_cell h 3).trans rfl, (blk_cell h 4).trans rfl, blk_frozen h 0, blk_frozen h 1, blk_frozen h 2, blk_frozen h 3, blk_frozen h 4⟩
abbrev zS := @below_set
abbrev zN := @pw_below_drewN
abbrev zD := @below_drew1
abbrev zA := @below_alloc
abbrev zM := @Aside0.mk
abbrev zL := @World.block_lt_of_cell?
end Go.Proofs.Ytplngfammfdemaa
end
section
namespace Go.Proofs.Ytplngfammfdemaa.Q
open Go.RowKit Go.Proofs.Ytplngfammfdemaa Go.Proofs.YtplngfammfdemaaW.PrintWords Go.Proofs.YtplngfammfdemaaW.PrintLast Go.Proofs.YtplngfammfdemaaW.PrintMore
attribute [local go_sem] max2_int min2_int max_two min_two max_three min_three max_four min_four   -- for this text's walks alone
set_option linter.unusedVariables false
set_option linter.unusedSimpArgs false
def tree_size.f (a0 : Int) (a1 : Int) : Option (Bool) := (tree_in.f a0 1 80).bind fun t112 => (if t112 = true then ((tree_in.f a1 1 50).bind fun t113 => (some t113)) else (some false))
set_option maxHeartbeats 8000000 in
set_option maxRecDepth 100000 in
theorem tree_size.calls (a0 : Int) (a1 : Int) (r : Bool) (w : World) (h : tree_size.f a0 a1 = some r) :
 Calls Try.prog 58 #[.int .i64 a0, .int .i64 a1] w fun e w' => e = .returned (.bool r) ∧ Drawn0 w w' := by
 have H : ((tree_in.f a0 1 80).bind fun t112 => (if t112 = true then ((tree_in.f a1 1 50).bind fun t113 => (some t113)) else (some false))) = some r := h
 clear h
 replace H := Option.bind_eq_some_iff.mp H
 obtain ⟨t112, A30, H⟩ := H
 replace H : (if t112 = true then ((tree_in.f a1 1 50).bind fun t113 => (some t113)) else (some false)) = some r := H
 have A3 := zM A30
 clear A30
 by_cases c4 : t112 = true
 ·subst c4
  have H1 : ((tree_in.f a1 1 50).bind fun t113 => (some t113)) = some r := by rw [if_pos rfl] at H; exact H
  clear H
  have H := H1
  clear H1
  replace H := Option.bind_eq_some_iff.mp H
  obtain ⟨t113, A50, H⟩ := H
  replace H : (some t113) = some r := H
  have A5 := zM A50
  clear A50
  obtain rfl := Option.some.inj H
  go_enter Try.func58, Try.ntmps58
  go_wp2_with (first | ((with_reducible refine gate_callee (f := 82) rfl ?_); refine ga (some 6) rfl rfl Try.func82 (by kernel_rfl) rfl #[.int .i64 a0, .int .i64 1, .int .i64 80] rfl ?_; (with_reducible refine (tree_in.calls a0 1 80 true _ A3.out).mono ?_); rintro e w' ⟨rfl, ⟨nd, rfl⟩⟩; refine ⟨_, rfl, ?_⟩) | (go_at_call 82; (with_reducible refine (tree_in.calls a1 1 50 t113 _ A5.out).mono ?_); rintro e w' ⟨rfl, ⟨nd, rfl⟩⟩))
  go_ret
  exact ⟨by first | rfl | (simp; done) | (simp [*]; done), by repeat (first | exact Drawn0.refl _ | apply Drawn0.step)⟩
 ·replace c4 := Bool.eq_false_iff.mpr c4
  subst c4
  have H1 : (some false) = some r := by rw [if_neg (show ¬ (false = true) by decide)] at H; exact H
  clear H
  have H := H1
  clear H1
  obtain rfl := Option.some.inj H
  go_enter Try.func58, Try.ntmps58
  go_wp2_with (first | ((with_reducible refine gate_callee (f := 82) rfl ?_); refine ga (some 6) rfl rfl Try.func82 (by kernel_rfl) rfl #[.int .i64 a0, .int .i64 1, .int .i64 80] rfl ?_; (with_reducible refine (tree_in.calls a0 1 80 false _ A3.out).mono ?_); rintro e w' ⟨rfl, ⟨nd, rfl⟩⟩; refine ⟨_, rfl, ?_⟩))
  go_ret
  exact ⟨by first | rfl | (simp; done) | (simp [*]; done), by repeat (first | exact Drawn0.refl _ | apply Drawn0.step)⟩
/-- THE ONE PURE STATEMENT of tree_size: yours. -/
def tree_size.Pure : Prop := ∀ (a0 : Int) (a1 : Int), (Lit.int .i64 a0).wf = true → (Lit.int .i64 a1).wf = true → tree_size.f a0 a1 = some true
theorem tree_size.walk (P : tree_size.Pure) (a0 : Int) (a1 : Int) (w : World) (w0 : (Lit.int .i64 a0).wf = true) (w1 : (Lit.int .i64 a1).wf = true) :
 Calls Try.prog 58 #[.int .i64 a0, .int .i64 a1] w fun e w' => e = .returned (.bool true) ∧ Below w.heap.size w w' := by
 have h := P a0 a1 w0 w1
 refine (tree_size.calls a0 a1 true w h).mono ?_
 rintro e w' ⟨rfl, hd⟩
 exact ⟨rfl, hd.below⟩
def preset_in.f (a0 : Int) (a1 : Int) (a2 : Int) : Option (Bool) := if a0 ≥ a1 then (some (decide (a0 ≤ a2))) else (some false)
set_option maxHeartbeats 8000000 in
set_option maxRecDepth 100000 in
theorem preset_in.calls (a0 : Int) (a1 : Int) (a2 : Int) (r : Bool) (w : World) (h : preset_in.f a0 a1 a2 = some r) :
 Calls Try.prog 44 #[.int .i64 a0, .int .i64 a1, .int .i64 a2] w fun e w' => e = .returned (.bool r) ∧ Drawn0 w w' := by
 have H : (if a0 ≥ a1 then (some (decide (a0 ≤ a2))) else (some false)) = some r := h
 clear h
 by_cases c4 : a0 ≥ a1
 ·rw [if_pos c4] at H
  have c4b0 : decide (a1 ≤ a0) = true := decide_eq_true c4
  clear c4
  obtain rfl := Option.some.inj H
  go_enter Try.func44, Try.ntmps44
  go_wp2
  go_ret
  exact ⟨by first | rfl | (simp; done) | (simp [*]; done), by repeat (first | exact Drawn0.refl _ | apply Drawn0.step)⟩
 ·rw [if_neg c4] at H
  have c4b0 : decide (a1 ≤ a0) = false := decide_eq_false c4
  clear c4
  obtain rfl := Option.some.inj H
  go_enter Try.func44, Try.ntmps44
  go_wp2
  go_ret
  exact ⟨by first | rfl | (simp; done) | (simp [*]; done), by repeat (first | exact Drawn0.refl _ | apply Drawn0.step)⟩
mutual
def preset_Even.j0 : Nat → Int → Int → Bool → Option (List Int × Int)
 | 0, _, _, _ => none
 | k + 1, x0, x1, x16 => if x16 = true then (some (([] : List Int), 1)) else (if (wrap64 ((wrap64 (x0 - x1)) + 1)) < x1 then (some (([] : List Int), 9)) else (if x1 = 0 then (none) else ((slices_Repeat_int_int.f (([wrap64 (Int.tdiv (wrap64 ((wrap64 (x0 - x1)) + 1)) x1)] : List Int)) x1).bind fun t119 => (preset_Even.l0 k t119 (Int.tmod (wrap64 ((wrap64 (x0 - x1)) + 1)) x1) 0))))
def preset_Even.l0 : Nat → List Int → Int → Int → Option (List Int × Int)
 | 0, _, _, _ => none
 | k + 1, x7, x32, x33 => if x33 < x32 then (if 0 ≤ x33 then (if x33 < (x7.length : Int) then (preset_Even.l0 k (x7.set (x33 : Int).toNat (wrap64 ((rd x7 x33) + 1))) x32 (wrap64 (x33 + 1))) else (none)) else (none)) else (some (x7, 0))
end
def preset_Even.f (k : Nat) (a0 : Int) (a1 : Int) : Option (List Int × Int) := (preset_in.f a0 1 80).bind fun t114 => (if t114 = true then ((preset_in.f a1 1 8).bind fun t115 => (preset_Even.j0 k a0 a1 (!t115))) else (preset_Even.j0 k a0 a1 true))
theorem preset_Even.mono_l : ∀ k, (∀ y0 y1 y2, LeO (preset_Even.j0 k y0 y1 y2) (preset_Even.j0 (k + 1) y0 y1 y2)) ∧ (∀ y0 y1 y2, LeO (preset_Even.l0 k y0 y1 y2) (preset_Even.l0 (k + 1) y0 y1 y2))
 | 0 => ⟨fun _ _ _ r h => by simp [preset_Even.j0] at h, fun _ _ _ r h => by simp [preset_Even.l0] at h⟩
 | k + 1 => by
  obtain ⟨ih0, ih1⟩ := preset_Even.mono_l k
  refine ⟨?_, ?_⟩
  ·intro y0 y1 y2
   unfold preset_Even.j0
   repeat' first
   | (with_reducible exact ih0 _ _ _)
   | (with_reducible exact ih1 _ _ _)
   | (with_reducible exact LeO.refl _)
   | (with_reducible exact LeO.none _)
   | (with_reducible refine LeO.ite ?_ ?_)
   | (with_reducible refine LeO.bind ?_ (fun _ => ?_))
   | exact ih0 _ _ _
   | exact ih1 _ _ _
   | exact LeO.none _
   | refine LeO.ite ?_ ?_
   | refine LeO.bind ?_ (fun _ => ?_)
  ·intro y0 y1 y2
   unfold preset_Even.l0
   repeat' first
   | (with_reducible exact ih0 _ _ _)
   | (with_reducible exact ih1 _ _ _)
   | (with_reducible exact LeO.refl _)
   | (with_reducible exact LeO.none _)
   | (with_reducible refine LeO.ite ?_ ?_)
   | (with_reducible refine LeO.bind ?_ (fun _ => ?_))
   | exact ih0 _ _ _
   | exact ih1 _ _ _
   | exact LeO.none _
   | refine LeO.ite ?_ ?_
   | refine LeO.bind ?_ (fun _ => ?_)
theorem preset_Even.mono : ∀ a0 a1 k, LeO (preset_Even.f k a0 a1) (preset_Even.f (k + 1) a0 a1) := by
 intro a0 a1 k
 obtain ⟨ih0, ih1⟩ := preset_Even.mono_l k
 unfold preset_Even.f
 repeat' first
  | (with_reducible exact ih0 _ _ _)
  | (with_reducible exact ih1 _ _ _)
  | (with_reducible exact LeO.refl _)
  | (with_reducible exact LeO.none _)
  | (with_reducible refine LeO.ite ?_ ?_)
  | (with_reducible refine LeO.bind ?_ (fun _ => ?_))
  | exact ih0 _ _ _
  | exact ih1 _ _ _
  | exact LeO.none _
  | refine LeO.ite ?_ ?_
  | refine LeO.bind ?_ (fun _ => ?_)
set_option maxHeartbeats 8000000 in
set_option maxRecDepth 100000 in
theorem preset_Even.calls (k : Nat) (a0 : Int) (a1 : Int) (r1 : List Int) (r2 : Int) (w : World) (h : preset_Even.f k a0 a1 = some (r1, r2)) :
 Calls Try.prog 11 #[.int .i64 a0, .int .i64 a1] w fun e w' => ∃ v0_ : Value, e = .returned (.tuple #[v0_, .int .i64 r2]) ∧ Kd.R (Kd.int .i64) 3 w' w.heap.size (fun _ => True) v0_ r1 ∧ Below w.heap.size w w' := by
 have HB := zM (Below.refl w.heap.size w)
 have H : ((preset_in.f a0 1 80).bind fun t114 => (if t114 = true then ((preset_in.f a1 1 8).bind fun t115 => (preset_Even.j0 k a0 a1 (!t115))) else (preset_Even.j0 k a0 a1 true))) = some (r1, r2) := h
 clear h
 have HC3 := zM H
 clear H
 go_enter Try.func11, Try.ntmps11
 go_upto_region 1 with (fail)
 go_cut [16] (fun v16 wc => ∃ (kq : Nat) (x16_2 : Bool), v16 = .bool x16_2 ∧ Aside0 (preset_Even.j0 kq a0 a1 x16_2 = some (r1, r2)) ∧ Aside0 (kq ≤ k) ∧ Aside0 (Below w.heap.size w wc))
 case first =>
  have H := HC3.out
  clear HC3
  replace H := Option.bind_eq_some_iff.mp H
  obtain ⟨t114, A40, H⟩ := H
  replace H : (if t114 = true then ((preset_in.f a1 1 8).bind fun t115 => (preset_Even.j0 k a0 a1 (!t115))) else (preset_Even.j0 k a0 a1 true)) = some (r1, r2) := H
  have A4 := zM A40
  clear A40
  by_cases c5 : t114 = true
  ·subst c5
   have H1 : ((preset_in.f a1 1 8).bind fun t115 => (preset_Even.j0 k a0 a1 (!t115))) = some (r1, r2) := by rw [if_pos rfl] at H; exact H
   clear H
   have H := H1
   clear H1
   replace H := Option.bind_eq_some_iff.mp H
   obtain ⟨t115, A60, H⟩ := H
   replace H : (preset_Even.j0 k a0 a1 (!t115)) = some (r1, r2) := H
   have A6 := zM A60
   clear A60
   have H' := zM H
   clear H
   go_wp2_with (first | ((with_reducible refine gate_callee (f := 44) rfl ?_); refine ga (some 10) rfl rfl Try.func44 (by kernel_rfl) rfl #[.int .i64 a0, .int .i64 1, .int .i64 80] rfl ?_; (with_reducible refine (preset_in.calls a0 1 80 true _ A4.out).mono ?_); rintro e w' ⟨rfl, ⟨nd, rfl⟩⟩; refine ⟨_, rfl, ?_⟩) | (go_at_call 44; (with_reducible refine (preset_in.calls a1 1 8 t115 _ A6.out).mono ?_); rintro e w' ⟨rfl, ⟨nd, rfl⟩⟩))
   go_meet
   case rel => exact ⟨_, (!t115), (by first | rfl | (simp; done) | (simp [*]; done)), H', ⟨by first | omega | exact Nat.le_refl _⟩, ⟨by first | exact HB.out | exact zN HB.out _ | exact zD HB.out⟩⟩
  ·replace c5 := Bool.eq_false_iff.mpr c5
   subst c5
   have H1 : (preset_Even.j0 k a0 a1 true) = some (r1, r2) := by rw [if_neg (show ¬ (false = true) by decide)] at H; exact H
   clear H
   have H := H1
   clear H1
   have H' := zM H
   clear H
   go_wp2_with (first | ((with_reducible refine gate_callee (f := 44) rfl ?_); refine ga (some 10) rfl rfl Try.func44 (by kernel_rfl) rfl #[.int .i64 a0, .int .i64 1, .int .i64 80] rfl ?_; (with_reducible refine (preset_in.calls a0 1 80 false _ A4.out).mono ?_); rintro e w' ⟨rfl, ⟨nd, rfl⟩⟩; refine ⟨_, rfl, ?_⟩))
   go_meet
   case rel => exact ⟨_, (true), (by first | rfl | (simp; done) | (simp [*]; done)), H', ⟨by first | omega | exact Nat.le_refl _⟩, ⟨by first | exact HB.out | exact zN HB.out _ | exact zD HB.out⟩⟩
 case rest =>
  clear HC3
  (try clear c1); (try clear p2); (try clear c4); (try clear c5)
  obtain ⟨kq, x16_2, rfl, HA, HJ2, HB⟩ := hcut
  cases kq with
  | zero => exact absurd HA.out (by simp [preset_Even.j0])
  | succ kj2 =>
   have H := HA.out
   clear HA
   simp only [preset_Even.j0] at H
   by_cases c7 : x16_2 = true
   ·subst c7
    have H1 : (some (([] : List Int), 1)) = some (r1, r2) := by rw [if_pos rfl] at H; exact H
    clear H
    have H := H1
    clear H1
    simp only [Option.some.injEq, Prod.mk.injEq] at H
    obtain ⟨rfl, rfl⟩ := H
    go_wp2
    go_ret2
    exact ⟨_, by first | rfl | (simp [errW_none, errW_some] <;> rfl) | (simp [*, errW_none, errW_some] <;> rfl), by first | exact Kd.R_nil _ _ _ _ _ | exact Kd.N_nil _ _ _ _ _ | exact Kd.V_nil _ _ _ _ _ | exact Kd.Q_nil _ _ _ _ _ | exact Kd.S_nil _ _ _ _ _, by first | exact HB.out | exact zN HB.out _ | exact zD HB.out⟩
   ·replace c7 := Bool.eq_false_iff.mpr c7
    subst c7
    have H1 : (if (wrap64 ((wrap64 (a0 - a1)) + 1)) < a1 then (some (([] : List Int), 9)) else (if a1 = 0 then (none) else ((slices_Repeat_int_int.f (([wrap64 (Int.tdiv (wrap64 ((wrap64 (a0 - a1)) + 1)) a1)] : List Int)) a1).bind fun t119 => (preset_Even.l0 kj2 t119 (Int.tmod (wrap64 ((wrap64 (a0 - a1)) + 1)) a1) 0)))) = some (r1, r2) := by rw [if_neg (show ¬ (false = true) by decide)] at H; exact H
    clear H
    have H := H1
    clear H1
    by_cases c8 : (wrap64 ((wrap64 (a0 - a1)) + 1)) < a1
    ·rw [if_pos c8] at H
     have c8b0 : decide ((wrap64 ((wrap64 (a0 - a1)) + 1)) < a1) = true := decide_eq_true c8
     clear c8
     simp only [Option.some.injEq, Prod.mk.injEq] at H
     obtain ⟨rfl, rfl⟩ := H
     go_wp2
     go_ret2
     exact ⟨_, by first | rfl | (simp [errW_none, errW_some] <;> rfl) | (simp [*, errW_none, errW_some] <;> rfl), by first | exact Kd.R_nil _ _ _ _ _ | exact Kd.N_nil _ _ _ _ _ | exact Kd.V_nil _ _ _ _ _ | exact Kd.Q_nil _ _ _ _ _ | exact Kd.S_nil _ _ _ _ _, by first | exact HB.out | exact zN HB.out _ | exact zD HB.out⟩
    ·rw [if_neg c8] at H
     have c8b0 : decide ((wrap64 ((wrap64 (a0 - a1)) + 1)) < a1) = false := decide_eq_false c8
     clear c8
     by_cases c9 : a1 = 0
     ·rw [if_pos c9] at H
      exact absurd H (by simp)
     ·rw [if_neg c9] at H
      have c9b0 : (a1 == 0) = false := beq_eq_false_iff_ne.mpr c9
      have c9b1 : (a1 != 0) = true := bne_iff_ne.mpr c9
      obtain ⟨y116, hy116⟩ : ∃ y_ : List Int, y_ = (([wrap64 (Int.tdiv (wrap64 ((wrap64 (a0 - a1)) + 1)) a1)] : List Int)) := ⟨_, rfl⟩
      replace H : ((slices_Repeat_int_int.f y116 a1).bind fun t119 => (preset_Even.l0 kj2 t119 (Int.tmod (wrap64 ((wrap64 (a0 - a1)) + 1)) a1) 0)) = some (r1, r2) := by first | (rw [hy116]; with_reducible exact H) | (have H2_ := (Option.bind_some _ _).symm.trans H; rw [hy116]; with_reducible exact H2_) | (have H2_ := (Option.bind_some _ _).symm.trans H; with_reducible exact H2_) | with_reducible exact H | (rw [hy116]; exact H) | exact H
      have Ny116 := zM hy116
      clear hy116
      replace H := Option.bind_eq_some_iff.mp H
      obtain ⟨t119, A100, H⟩ := H
      replace H : (preset_Even.l0 kj2 t119 (Int.tmod (wrap64 ((wrap64 (a0 - a1)) + 1)) a1) 0) = some (r1, r2) := H
      have A10 := zM A100
      clear A100
      have H' := zM H
      clear H
      go_wp2_with (first | ((with_reducible refine gate_dst (N := 27) rfl ?_); refine Kd.R_lit (Kd.int .i64) _ 3 ?hg (N := 27) ?hd (xs := ([wrap64 (Int.tdiv (wrap64 ((wrap64 (a0 - a1)) + 1)) a1)] : List Int)) (inner := [.int .i64 (wrap64 (Int.tdiv (wrap64 ((wrap64 (a0 - a1)) + 1)) a1))]) (ok := fun _ => True) (okp := fun _ => True) ?hr ?hp (fun _ hk => hk) trivial (Below.refl _ _) (Nat.le_refl _) (by simp) ?_; (case hd => rfl); (case hg => rfl); (case hr => first | (go_simp; done) | (go_simp; rfl)); (case hp => exact (Reps.one (show Kd.M (Kd.int .i64) _ _ _ (wrap64 (Int.tdiv (wrap64 ((wrap64 (a0 - a1)) + 1)) a1)) [.int .i64 (wrap64 (Int.tdiv (wrap64 ((wrap64 (a0 - a1)) + 1)) a1))] from rfl) (Reps.none _ _))); intro v117 w11 ho12 hb hg_ hnew_; clear hg_ hnew_; (first | rw [← Ny116.out] at ho12 | (simp only [Int.reduceToNat] at ho12; rw [← Ny116.out] at ho12)); have HO118 := zM (Kd.R_lower ho12 (below_size (by first | exact HB.out | exact zN HB.out _ | exact zD HB.out))); replace HB := zM (below_step (by first | exact HB.out | exact zN HB.out _ | exact zD HB.out) hb); clear hb ho12; obtain ⟨Ao13, co13, eo13⟩ := Kd.R_slice HO118.out; subst eo13) | ((with_reducible refine gate_callee (f := 45) rfl ?_); refine ga (some 29) rfl rfl Try.func45 (by kernel_rfl) rfl #[.slice Ao13 y116.length co13, .int .i64 a1] rfl ?_; (with_reducible refine (slices_Repeat_int_int.calls _ _ y116 a1 t119 _ ?side1 ?side2 A10.out).mono ?_); (case side1 => repeat (first | exact (Kd.R_reads' HO118.out).2.2 | (with_reducible refine Kd.C_alloc ?_ _) | (with_reducible refine Kd.C_drewN ?_ _) | (with_reducible refine Kd.C_drew ?_))); (case side2 => exact (Kd.R_reads' HO118.out).2.1); rintro e w14 ⟨v120, rfl, ho0, hb⟩; refine ⟨_, rfl, ?_⟩; have HO121 := zM (Kd.R_lower (Kd.R_new' ho0 (Kd.R_lt (by (with_reducible repeat (first | apply Kd.R_alloc | apply Kd.R_drewN | apply Kd.R_drew)); exact HO118.out))) (below_size (by first | exact HB.out | exact zN HB.out _ | exact zD HB.out))); replace HO118 := zM (Kd.R_elder' (by (with_reducible repeat (first | apply Kd.R_alloc | apply Kd.R_drewN | apply Kd.R_drew)); exact HO118.out) (Kd.R_base ho0) hb); replace HB := zM (below_step (by first | exact HB.out | exact zN HB.out _ | exact zD HB.out) hb); (try clear hb); (try clear hb2); (try clear hk); (try clear hi); (try clear ho0)))
      go_loopg [33] kj2 (fun kq v33 w' => ∃ (x7_2 : List Int) (x33_2 : Int), v33 = .int .i64 x33_2 ∧ Aside0 (preset_Even.l0 kq x7_2 (Int.tmod (wrap64 ((wrap64 (a0 - a1)) + 1)) a1) x33_2 = some (r1, r2)) ∧ Aside0 (kq ≤ kj2) ∧ Aside0 (Kd.R (Kd.int .i64) 3 w' w.heap.size (fun _ => True) v120 x7_2) ∧ Aside0 (Below w.heap.size w w'))
      case atStart => exact ⟨(t119), (0), (by first | rfl | (simp; done) | (simp [*]; done)), H', ⟨Nat.le_refl _⟩, ⟨by (with_reducible repeat (first | apply Kd.R_alloc | apply Kd.R_drewN | apply Kd.R_drew)); exact Kd.R_mono HO121.out (fun _ hk => trivial)⟩, ⟨by first | exact HB.out | exact zN HB.out _ | exact zD HB.out⟩⟩
      case round =>
       clear H'
       (try clear c1); (try clear p2); (try clear c4); (try clear c5); (try clear p6); (try clear c7); (try clear c8); (try clear c8b0); (try clear c9); (try clear c9b0); (try clear c9b1); (try clear c11); (try clear p2)
       obtain ⟨x7_2, x33_2, rfl, HA, HK2, HO_7, HB⟩ := hrel
       cases gk with
       | zero => exact absurd HA.out (by simp [preset_Even.l0])
       | succ k2 =>
        have H := HA.out
        clear HA
        simp only [preset_Even.l0] at H
        by_cases c15 : x33_2 < (Int.tmod (wrap64 ((wrap64 (a0 - a1)) + 1)) a1)
        ·rw [if_pos c15] at H
         have c15b0 : decide (x33_2 < (Int.tmod (wrap64 ((wrap64 (a0 - a1)) + 1)) a1)) = true := decide_eq_true c15
         clear c15
         by_cases c16 : 0 ≤ x33_2
         ·rw [if_pos c16] at H
          have c16b0 : decide (0 ≤ x33_2) = true := decide_eq_true c16
          clear c16
          by_cases c17 : x33_2 < (x7_2.length : Int)
          ·rw [if_pos c17] at H
           have c17b0 : decide (x33_2 < (x7_2.length : Int)) = true := decide_eq_true c17
           clear c17
           obtain ⟨y123, hy123⟩ : ∃ y_ : List Int, y_ = (x7_2.set (x33_2 : Int).toNat (wrap64 ((rd x7_2 x33_2) + 1))) := ⟨_, rfl⟩
           replace H : (preset_Even.l0 k2 y123 (Int.tmod (wrap64 ((wrap64 (a0 - a1)) + 1)) a1) (wrap64 (x33_2 + 1))) = some (r1, r2) := by first | (rw [hy123]; with_reducible exact H) | (have H2_ := (Option.bind_some _ _).symm.trans H; rw [hy123]; with_reducible exact H2_) | (have H2_ := (Option.bind_some _ _).symm.trans H; with_reducible exact H2_) | with_reducible exact H | (rw [hy123]; exact H) | exact H
           have Ny123 := zM hy123
           clear hy123
           have H' := zM H
           clear H
           obtain ⟨Ao19, co19, eo19⟩ := Kd.R_slice HO_7.out
           subst eo19
           have p122 : 0 ≤ (x33_2 : Int) := of_decide_eq_true (by first | (with_reducible assumption) | assumption)
           have q122 : x33_2 < (x7_2.length : Int) := of_decide_eq_true (by first | (with_reducible assumption) | assumption)
           obtain ⟨ad122, e122, hx122_0⟩ := Kd.at_int (Kd.R_reads' HO_7.out).2.2 x33_2 p122 q122
           cases e122
           replace p122 := eq_true p122
           replace q122 := eq_true q122
           have p18 : 0 ≤ (x33_2 : Int) := of_decide_eq_true (by first | (with_reducible assumption) | assumption)
           have q18 : (x33_2 : Int) < ((x7_2.length : Int) : Int) := of_decide_eq_true (by first | (with_reducible assumption) | assumption)
           obtain ⟨go18, co18, eo18, gb18, gl18, cl18, HG18⟩ := Kd.R_form HO_7.out (by omega)
           (first | cases eo18 | (injection eo18 with ea_ en_ ec_; (first | subst ea_ | (injection ea_ with ea_; subst ea_)); subst ec_; clear en_))
           have GB18 := zM gb18
           have GG18 := zM HG18
           clear gb18 gl18 HG18
           (first | simp only [add_plain] at hx122_0 | skip)
           obtain ⟨hx18_0, hf18_0⟩ := Kd.R_celln 0 HO_7.out (x33_2 : Int) p18 q18
           replace p18 := eq_true p18
           replace q18 := eq_true q18
           have HP20 := Kd.R_putg HO_7.out (x33_2 : Int) (wrap64 ((rd x7_2 x33_2) + 1))
           go_wp2_with (first | ((with_reducible refine gate_store (t := 3) (p := 41) rfl ?_); refine store_event (t := 3) (p := 41) (v := ?vo_w21) (w1 := (wr.setCell ⟨go18, (x33_2 : Int).toNat, none⟩ (.int .i64 (wrap64 ((rd x7_2 x33_2) + 1))))) ?hg ?ho ?hn ?hr ?_; (case ho => rfl); (case hg => rfl); (case hn => rfl); (case hr => first | (go_simp; done) | (go_simp; rfl)); intro w21 hw; have hg : wr.grownBy w21 (some go18) := (by rw [hw]; exact HP20.2); have hp_ : Kd.R (Kd.int .i64) 3 w21 w.heap.size (fun _ => True) (.slice (some ⟨go18, 0, none⟩) x7_2.length co19) y123 := (by rw [hw, Ny123.out]; exact HP20.1); clear HP20; replace HO_7 := zM (hp_); replace HB := zM ((by rw [hw]; exact zS (HB.out) GB18.out : Below w.heap.size w w21)); clear hg hw hp_))
           go_roundg k2
           case measure => have := HJ2.out; have := HK2.out; omega
           case rel => exact ⟨(y123), (wrap64 (x33_2 + 1)), (by first | rfl | (simp; done) | (simp [*]; done)), H', ⟨by have := HJ2.out; have := HK2.out; omega⟩, ⟨by (with_reducible repeat (first | apply Kd.R_alloc | apply Kd.R_drewN | apply Kd.R_drew)); exact HO_7.out⟩, ⟨by first | exact HB.out | exact zN HB.out _ | exact zD HB.out⟩⟩
          ·rw [if_neg c17] at H
           exact absurd H (by simp)
         ·rw [if_neg c16] at H
          exact absurd H (by simp)
        ·rw [if_neg c15] at H
         have c15b0 : decide (x33_2 < (Int.tmod (wrap64 ((wrap64 (a0 - a1)) + 1)) a1)) = false := decide_eq_false c15
         clear c15
         simp only [Option.some.injEq, Prod.mk.injEq] at H
         obtain ⟨rfl, rfl⟩ := H
         go_wp2
         go_ret2
         exact ⟨_, by first | rfl | (simp [errW_none, errW_some] <;> rfl) | (simp [*, errW_none, errW_some] <;> rfl), by (with_reducible repeat (first | apply Kd.R_alloc | apply Kd.R_drewN | apply Kd.R_drew)); exact HO_7.out, by first | exact HB.out | exact zN HB.out _ | exact zD HB.out⟩
def preset_size_along.f (a0_0 : Int) (a0_1 : Int) (a1 : Int) : Option (Int) := if a1 = 1 then (some a0_0) else (some a0_1)
set_option maxHeartbeats 8000000 in
set_option maxRecDepth 100000 in
theorem preset_size_along.calls (a0_0 : Int) (a0_1 : Int) (a1 : Int) (r : Int) (w : World) (h : preset_size_along.f a0_0 a0_1 a1 = some r) :
 Calls Try.prog 119 #[.agg #[.int .i64 a0_0, .int .i64 a0_1], .int .i64 a1] w fun e w' => e = .returned (.int .i64 r) ∧ Below w.heap.size w w' := by
 have hu83 := Try.underlying83
 have HB := zM (Below.refl w.heap.size w)
 have H : (if a1 = 1 then (some a0_0) else (some a0_1)) = some r := h
 clear h
 by_cases c3 : a1 = 1
 ·rw [if_pos c3] at H
  have c3b0 : (a1 == 1) = true := beq_iff_eq.mpr c3
  have c3b1 : (a1 != 1) = false := bne_eq_false_iff_eq.mpr c3
  clear c3
  obtain rfl := Option.some.inj H
  go_enter Try.func119, Try.ntmps119
  go_wp2_with (first | ((with_reducible refine gate_dst (N := 2) rfl ?_); refine box_event ?hg (N := 2) ?hd (cs := #[.int .i64 a0_0, .int .i64 a0_1]) (t := 83) ?hr ?_; (case hd => rfl); (case hg => rfl); (case hr => first | (go_simp; done) | (go_simp; rfl)); intro gb124 hg w4 hbox hb; have BK124 := zM (hbox); have GW124 := zM ((by rw [hg]; exact (below_size (by first | exact HB.out | exact zN HB.out _ | exact zD HB.out)) : w.heap.size ≤ gb124)); have GE124 := GW124; replace HB := zM (below_step (by first | exact HB.out | exact zN HB.out _ | exact zD HB.out) hb); clear hb hbox hg; have hcz5_0 : w4.cell? ⟨gb124, 0, none⟩ = some (.int .i64 a0_0) := (blk_cell BK124.out 0).trans rfl; have hcz5_1 : w4.cell? ⟨gb124, 1, none⟩ = some (.int .i64 a0_1) := (blk_cell BK124.out 1).trans rfl; have hfz5_0 := blk_frozen BK124.out 0; have hfz5_1 := blk_frozen BK124.out 1))
  go_ret
  exact ⟨by first | rfl | (simp [errW_none, errW_some] <;> rfl) | (simp [*, errW_none, errW_some] <;> rfl), by repeat first | refine zS ?_ GE124.out | exact HB.out | apply zA | apply zN | apply zD⟩
 ·rw [if_neg c3] at H
  have c3b0 : (a1 == 1) = false := beq_eq_false_iff_ne.mpr c3
  have c3b1 : (a1 != 1) = true := bne_iff_ne.mpr c3
  obtain rfl := Option.some.inj H
  go_enter Try.func119, Try.ntmps119
  go_wp2_with (first | ((with_reducible refine gate_dst (N := 2) rfl ?_); refine box_event ?hg (N := 2) ?hd (cs := #[.int .i64 a0_0, .int .i64 a0_1]) (t := 83) ?hr ?_; (case hd => rfl); (case hg => rfl); (case hr => first | (go_simp; done) | (go_simp; rfl)); intro gb124 hg w6 hbox hb; have BK124 := zM (hbox); have GW124 := zM ((by rw [hg]; exact (below_size (by first | exact HB.out | exact zN HB.out _ | exact zD HB.out)) : w.heap.size ≤ gb124)); have GE124 := GW124; replace HB := zM (below_step (by first | exact HB.out | exact zN HB.out _ | exact zD HB.out) hb); clear hb hbox hg; have hcz7_0 : w6.cell? ⟨gb124, 0, none⟩ = some (.int .i64 a0_0) := (blk_cell BK124.out 0).trans rfl; have hcz7_1 : w6.cell? ⟨gb124, 1, none⟩ = some (.int .i64 a0_1) := (blk_cell BK124.out 1).trans rfl; have hfz7_0 := blk_frozen BK124.out 0; have hfz7_1 := blk_frozen BK124.out 1))
  go_ret
  exact ⟨by first | rfl | (simp [errW_none, errW_some] <;> rfl) | (simp [*, errW_none, errW_some] <;> rfl), by repeat first | refine zS ?_ GE124.out | exact HB.out | apply zA | apply zN | apply zD⟩
end Go.Proofs.Ytplngfammfdemaa.Q
end
section
namespace Go.Proofs.Ytplngfammfdemaa.Q
open Go.RowKit Go.Proofs.Ytplngfammfdemaa Go.Proofs.YtplngfammfdemaaW.PrintWords Go.Proofs.YtplngfammfdemaaW.PrintLast Go.Proofs.YtplngfammfdemaaW.PrintMore
attribute [local go_sem] max2_int min2_int max_two min_two max_three min_three max_four min_four   -- for this text's walks alone
set_option linter.unusedVariables false
set_option linter.unusedSimpArgs false
def slices_Index_int_int.l0 : Nat → List Int → Int → Int → Int → Option (Int)
  | 0, _, _, _, _ => none
  | k + 1, x0, x1, x7, x8 => if x8 < x7 then (if 0 ≤ x8 then (if x8 < (x0.length : Int) then (if x1 = (rd x0 x8) then (some x8) else (slices_Index_int_int.l0 k x0 x1 x7 (wrap64 (x8 + 1)))) else (none)) else (none)) else (some (-1))
def slices_Index_int_int.f (k : Nat) (l0 : List Int) (a1 : Int) : Option (Int) := slices_Index_int_int.l0 k l0 a1 (l0.length : Int) 0
theorem slices_Index_int_int.mono_l : ∀ k, (∀ y0 y1 y2 y3, LeO (slices_Index_int_int.l0 k y0 y1 y2 y3) (slices_Index_int_int.l0 (k + 1) y0 y1 y2 y3))
  | 0 => fun _ _ _ _ r h => by simp [slices_Index_int_int.l0] at h
  | k + 1 => by
    have ih0 := slices_Index_int_int.mono_l k
    · intro y0 y1 y2 y3
      unfold slices_Index_int_int.l0
      repeat' first
      | (with_reducible exact ih0 _ _ _ _)
      | (with_reducible exact LeO.refl _)
      | (with_reducible exact LeO.none _)
      | (with_reducible refine LeO.ite ?_ ?_)
      | (with_reducible refine LeO.bind ?_ (fun _ => ?_))
      | exact ih0 _ _ _ _
      | exact LeO.none _
      | refine LeO.ite ?_ ?_
      | refine LeO.bind ?_ (fun _ => ?_)
theorem slices_Index_int_int.mono : ∀ a0 a1 k, LeO (slices_Index_int_int.f k a0 a1) (slices_Index_int_int.f (k + 1) a0 a1) := by
  intro a0 a1 k
  have ih0 := slices_Index_int_int.mono_l k
  unfold slices_Index_int_int.f
  repeat' first
      | (with_reducible exact ih0 _ _ _ _)
      | (with_reducible exact LeO.refl _)
      | (with_reducible exact LeO.none _)
      | (with_reducible refine LeO.ite ?_ ?_)
      | (with_reducible refine LeO.bind ?_ (fun _ => ?_))
      | exact ih0 _ _ _ _
      | exact LeO.none _
      | refine LeO.ite ?_ ?_
      | refine LeO.bind ?_ (fun _ => ?_)
set_option maxHeartbeats 8000000 in
set_option maxRecDepth 100000 in
theorem slices_Index_int_int.calls (k : Nat) (A0 : Option Addr) (c0 : Nat) (l0 : List Int) (a1 : Int) (r : Int) (w : World) (hr0 : Kd.C (Kd.int .i64) w A0 l0.length l0) (hc0 : l0.length ≤ c0) (h : slices_Index_int_int.f k l0 a1 = some r) :
    Calls Try.prog 87 #[.slice A0 l0.length c0, .int .i64 a1] w fun e w' => e = .returned (.int .i64 r) ∧ Drawn0 w w' := by
  have HR0 := Aside0.mk hr0
  have HC0 := Aside0.mk hc0
  clear hr0 hc0
  have H : (slices_Index_int_int.l0 k l0 a1 (l0.length : Int) 0) = some r := h
  clear h
  have H' := Aside0.mk H
  clear H
  go_enter Try.func87, Try.ntmps87
  go_wp2
  go_loopg [8] k (fun kq v8 w' => ∃ (x8_1 : Int), v8 = .int .i64 x8_1 ∧ Aside0 (slices_Index_int_int.l0 kq l0 a1 (l0.length : Int) x8_1 = some r) ∧ Aside0 (kq ≤ k) ∧ Drawn0 w w')
  case atStart => exact ⟨(0), (by first | rfl | (simp; done) | (simp [*]; done)), H', ⟨Nat.le_refl _⟩, by repeat (first | exact Drawn0.refl _ | apply Drawn0.step)⟩
  case round =>
    clear H'
    try clear p2
    obtain ⟨x8_1, rfl, HA, HK1, ⟨m1, rfl⟩⟩ := hrel
    cases gk with
    | zero => exact absurd HA.out (by simp [slices_Index_int_int.l0])
    | succ k1 =>
      have H := HA.out
      clear HA
      simp only [slices_Index_int_int.l0] at H
      by_cases c3 : x8_1 < (l0.length : Int)
      · rw [if_pos c3] at H
        have c3b0 : decide (x8_1 < (l0.length : Int)) = true := decide_eq_true c3
        clear c3
        by_cases c4 : 0 ≤ x8_1
        · rw [if_pos c4] at H
          have c4b0 : decide (0 ≤ x8_1) = true := decide_eq_true c4
          clear c4
          by_cases c5 : x8_1 < (l0.length : Int)
          · rw [if_pos c5] at H
            have c5b0 : decide (x8_1 < (l0.length : Int)) = true := decide_eq_true c5
            clear c5
            by_cases c6 : a1 = (rd l0 x8_1)
            · rw [if_pos c6] at H
              have c6b0 : (a1 == (rd l0 x8_1)) = true := beq_iff_eq.mpr c6
              have c6b1 : (a1 != (rd l0 x8_1)) = false := bne_eq_false_iff_eq.mpr c6
              clear c6
              obtain rfl := Option.some.inj H
              have p301 : 0 ≤ (x8_1 : Int) := of_decide_eq_true (by first | (with_reducible assumption) | assumption)
              have q301 : x8_1 < (l0.length : Int) := of_decide_eq_true (by first | (with_reducible assumption) | assumption)
              obtain ⟨ad301, e301, hx301_0⟩ := Kd.at_int HR0.out x8_1 p301 q301
              cases e301
              replace p301 := eq_true p301
              replace q301 := eq_true q301
              go_wp2
              go_ret
              exact ⟨by first | rfl | (simp; done) | (simp [*]; done), by repeat (first | exact Drawn0.refl _ | apply Drawn0.step)⟩
            · rw [if_neg c6] at H
              have c6b0 : (a1 == (rd l0 x8_1)) = false := beq_eq_false_iff_ne.mpr c6
              have c6b1 : (a1 != (rd l0 x8_1)) = true := bne_iff_ne.mpr c6
              have H' := Aside0.mk H
              clear H
              have p301 : 0 ≤ (x8_1 : Int) := of_decide_eq_true (by first | (with_reducible assumption) | assumption)
              have q301 : x8_1 < (l0.length : Int) := of_decide_eq_true (by first | (with_reducible assumption) | assumption)
              obtain ⟨ad301, e301, hx301_0⟩ := Kd.at_int HR0.out x8_1 p301 q301
              cases e301
              replace p301 := eq_true p301
              replace q301 := eq_true q301
              go_wp2
              go_roundg k1
              case measure => have := HK1.out; omega
              case rel => exact ⟨(wrap64 (x8_1 + 1)), (by first | rfl | (simp; done) | (simp [*]; done)), H', ⟨by have := HK1.out; omega⟩, by repeat (first | exact Drawn0.refl _ | apply Drawn0.step)⟩
          · rw [if_neg c5] at H
            exact absurd H (by simp)
        · rw [if_neg c4] at H
          exact absurd H (by simp)
      · rw [if_neg c3] at H
        have c3b0 : decide (x8_1 < (l0.length : Int)) = false := decide_eq_false c3
        clear c3
        obtain rfl := Option.some.inj H
        go_wp2
        go_ret
        exact ⟨by first | rfl | (simp; done) | (simp [*]; done), by repeat (first | exact Drawn0.refl _ | apply Drawn0.step)⟩
def slices_Contains_int_int.f (k : Nat) (l0 : List Int) (a1 : Int) : Option (Bool) := (slices_Index_int_int.f k l0 a1).bind fun t302 => (some (decide (t302 ≥ 0)))
theorem slices_Contains_int_int.mono : ∀ a0 a1 k, LeO (slices_Contains_int_int.f k a0 a1) (slices_Contains_int_int.f (k + 1) a0 a1) := by
  intro a0 a1 k
  unfold slices_Contains_int_int.f
  repeat' first
      | (with_reducible exact slices_Index_int_int.mono _ _ _)
      | (with_reducible exact LeO.refl _)
      | (with_reducible exact LeO.none _)
      | (with_reducible refine LeO.ite ?_ ?_)
      | (with_reducible refine LeO.bind ?_ (fun _ => ?_))
      | exact slices_Index_int_int.mono _ _ _
      | exact LeO.none _
      | refine LeO.ite ?_ ?_
      | refine LeO.bind ?_ (fun _ => ?_)
set_option maxHeartbeats 8000000 in
set_option maxRecDepth 100000 in
theorem slices_Contains_int_int.calls (k : Nat) (A0 : Option Addr) (c0 : Nat) (l0 : List Int) (a1 : Int) (r : Bool) (w : World) (hr0 : Kd.C (Kd.int .i64) w A0 l0.length l0) (hc0 : l0.length ≤ c0) (h : slices_Contains_int_int.f k l0 a1 = some r) :
    Calls Try.prog 51 #[.slice A0 l0.length c0, .int .i64 a1] w fun e w' => e = .returned (.bool r) ∧ Drawn0 w w' := by
  have HR0 := Aside0.mk hr0
  have HC0 := Aside0.mk hc0
  clear hr0 hc0
  have H : ((slices_Index_int_int.f k l0 a1).bind fun t302 => (some (decide (t302 ≥ 0)))) = some r := h
  clear h
  replace H := Option.bind_eq_some_iff.mp H
  obtain ⟨t302, A30, H⟩ := H
  replace H : (some (decide (t302 ≥ 0))) = some r := H
  have A3 := Aside0.mk A30
  clear A30
  obtain rfl := Option.some.inj H
  go_enter Try.func51, Try.ntmps51
  go_wp2_with (first | ((with_reducible refine gate_callee (f := 87) rfl ?_); refine goesL_ (some 7) rfl rfl Try.func87 (by kernel_rfl) rfl #[.slice A0 l0.length c0, .int .i64 a1] rfl (by (try simp only [List.map_toArray, List.map_cons, List.map_nil]); first | done | rfl | (simp only [List.length_drop, List.length_take]; rfl)) ?_; (with_reducible refine (slices_Index_int_int.calls k _ _ l0 a1 t302 _ ?side1 ?side2 A3.out).mono ?_); (case side1 => repeat (first | exact HR0.out | (with_reducible refine Kd.C_alloc ?_ _) | (with_reducible refine Kd.C_drewN ?_ _) | (with_reducible refine Kd.C_drew ?_))); (case side2 => exact HC0.out); rintro e w' ⟨rfl, ⟨nd, rfl⟩⟩; refine ⟨_, rfl, ?_⟩))
  go_ret
  exact ⟨by first | rfl | (simp; done) | (simp [*]; done), by repeat (first | exact Drawn0.refl _ | apply Drawn0.step)⟩
end Go.Proofs.Ytplngfammfdemaa.Q
end
