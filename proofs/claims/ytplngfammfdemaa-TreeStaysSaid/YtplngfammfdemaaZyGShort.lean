-- Copies of the texts YtplngfammfdemaaGColl, YtplngfammfdemaaGEach, YtplngfammfdemaaGPanes, YtplngfammfdemaaQx1, YtplngfammfdemaaGShort with what this claim does not reach left out (prune.py, a program of this project).
import Derived.Test.YtplngfammfdemaaZyGCont
import Derived.RangeFuncNested
import Derived.RangeFuncBound
import Derived.RangeFuncCalls
import Derived.RangeFuncLeaves
import Derived.Shelf.Abstract
import Derived.Shelf.RegionOpen
import Derived.WalkKit
import Derived.OwnWalkIn
import Derived.TacticsInMore
import Derived.LoopNIn
import Derived.LoopIn
import Derived.Sort.QuietIn
import Derived.Test.YtplngfammfdemaaZyWMore
import Derived.Test.YtplngfammfdemaaZyWLast
section
namespace Go.Proofs.Ytplngfammfdemaa
open Go.RowKit Go.Shelf Go.Proofs.YtplngfammfdemaaW.PrintWords Go.Proofs.YtplngfammfdemaaW.PrintLast Go.Proofs.YtplngfammfdemaaW.PrintMore
attribute [local go_sem] Oper.semAt_some
set_option linter.unusedVariables false
set_option linter.unusedSimpArgs false
/-- A row of the call's own lies in no box of another type. -/
theorem row_ne {W : World} {base : Nat} {e : TypeId} {size : Nat} {v : Value} {n : Nat} {xs : List Value} (h : W.ownsRow base e size v n xs) {B : Nat} {o : Array Value} {t : TypeId} (hB : W.heap[B]? = some (.cells o t (0, 0))) (hne : e ≠ t) : v.ownBlock ≠ some B := by
  rcases h.2 with ⟨rfl, _⟩ | ⟨g, cap, cur, rfl, _, hg, _⟩
  · intro e'; cases e'
  · intro e'
    have : g = B := by simpa [Value.ownBlock] using e'
    subst this
    rw [hB] at hg
    cases hg
    exact hne rfl
theorem row_slice {W : World} {base : Nat} {e : TypeId} {size : Nat} {v : Value} {n : Nat} {xs : List Value} (h : W.ownsRow base e size v n xs) : ∃ A k c, v = .slice A k c := by
  rcases h.2 with ⟨rfl, _⟩ | ⟨g, cap, cur, rfl, _⟩ <;> exact ⟨_, _, _, rfl⟩
end Go.Proofs.Ytplngfammfdemaa
end
section
namespace Go.Proofs.Ytplngfammfdemaa
open Go.RowKit Go.Shelf Go.Proofs.YtplngfammfdemaaW.PrintWords Go.Proofs.YtplngfammfdemaaW.PrintLast Go.Proofs.YtplngfammfdemaaW.PrintMore
set_option linter.unusedVariables false
set_option linter.unusedSimpArgs false
theorem abides_below' {α : Type} {B : Nat} {J : List α → World → Prop} (h : AbidesFrom B J) : ∀ s W W', J s W → Below W.heap.size W W' → J s W' := fun s W W' hs hb => h s W W' none hs (grown_of_below hb none) (fun r e => by cases e)
end Go.Proofs.Ytplngfammfdemaa
end
section
namespace Go.Proofs.Ytplngfammfdemaa
open Go.RowKit Go.Shelf Go.Proofs.YtplngfammfdemaaW.PrintWords Go.Proofs.YtplngfammfdemaaW.PrintLast Go.Proofs.YtplngfammfdemaaW.PrintMore Q
attribute [local go_sem] Oper.semAt_some
set_option linter.unusedVariables false
set_option linter.unusedSimpArgs false
def allK (f : S31 → Option (List Int)) : List S31 → Option (List Int)
  | [] => some []
  | x :: l => (f x).bind fun a => (allK f l).bind fun b => some (a ++ b)
def panesK : Nat → S31 → Option (List Int)
  | 0, _ => none
  | k + 1, t => if t.f0 = 0 then some [t.f1] else if t.f3.length < 1000000000000000000 then allK (panesK k) t.f3 else none
theorem allK_snoc (f : S31 → Option (List Int)) (l : List S31) (x : S31) : allK f (l ++ [x]) = (allK f l).bind fun a => (f x).bind fun b => some (a ++ b) := by
  induction l with
  | nil => simp [allK]
  | cons y l ih =>
    simp only [List.cons_append, allK, ih]
    cases f y with
    | none => rfl
    | some a =>
      cases allK f l with
      | none => rfl
      | some b => cases f x <;> simp
theorem allK_take {f : S31 → Option (List Int)} {l : List S31} {r : List Int} (h : allK f l = some r) : ∀ i, i ≤ l.length → ∃ a b, allK f (l.take i) = some a ∧ r = a ++ b := by
  induction l generalizing r with
  | nil => intro i hi; exact ⟨[], r, by simp [allK], by simp⟩
  | cons y l ih =>
    intro i hi
    cases i with
    | zero => exact ⟨[], r, rfl, rfl⟩
    | succ i =>
      simp only [allK] at h
      obtain ⟨a, ha, h⟩ := Option.bind_eq_some_iff.1 h
      obtain ⟨b, hb, h⟩ := Option.bind_eq_some_iff.1 h
      obtain rfl := Option.some.inj h
      obtain ⟨c, d, h1, rfl⟩ := ih hb i (by simpa using hi)
      exact ⟨a ++ c, d, by simp [allK, ha, h1], by simp⟩
theorem rd31_get (l : List S31) (i : Nat) (h : i < l.length) : rd_T31 l (i : Int) = l[i] := by
  unfold rd_T31
  rw [Int.toNat_natCast, List.getD_eq_getElem?_getD, List.getElem?_eq_getElem h]; rfl
/-- One kid on. -/
theorem allK_step {f : S31 → Option (List Int)} {l : List S31} {r a : List Int} (h : allK f l = some r) {i : Nat} (hi : i < l.length) (ha : allK f (l.take i) = some a) : ∃ b c, f (rd_T31 l (i : Int)) = some b ∧ allK f (l.take (i + 1)) = some (a ++ b) ∧ r = a ++ b ++ c := by
  obtain ⟨a', c, h1, h2⟩ := allK_take h (i + 1) hi
  rw [List.take_succ_eq_append_getElem hi, allK_snoc, ha] at h1
  simp only [Option.bind_some] at h1
  obtain ⟨b, hb, h1⟩ := Option.bind_eq_some_iff.1 h1
  obtain rfl := Option.some.inj h1
  exact ⟨b, c, by rw [rd31_get l i hi]; exact hb, by rw [List.take_succ_eq_append_getElem hi, allK_snoc, ha, hb]; rfl, h2⟩
def treeV (x : S31) (A : Option Addr) (c : Nat) : Value := .agg #[.int .i64 x.f0, .int .i64 x.f1, .int .i64 x.f2, .slice A x.f3.length c]
set_option maxRecDepth 100000 in
set_option maxHeartbeats 4000000 in
theorem each_in (l : Nat) (J Jx : List Int → World → Prop) (w0 : World) (N : Nat) (hJ : ∀ s W W', J s W → Below W.heap.size W W' → J s W')
    (hY : ∀ pre x W, J pre W → pre.length < N → YieldAt Fence.wide 3 Try.prog l #[.int .i64 x] W fun e W' =>
      (e = .returned (.bool true) ∧ J (pre ++ [x]) W' ∧ Below w0.heap.size W W') ∨ (e = .returned (.bool false) ∧ Jx (pre ++ [x]) W')) :
    ∀ k (x : S31) ps, panesK k x = some ps → ∀ A c, Kd.C k31 w0 A x.f3.length x.f3 → ∀ pre W, Below w0.heap.size w0 W → J pre W → pre.length + ps.length ≤ N →
    CallsIn Fence.wide 4 Try.prog 98 #[treeV x A c, .func (.yield l) #[] #[]] W fun e W' =>
      (e = .returned (.bool true) ∧ J (pre ++ ps) W' ∧ Below w0.heap.size W W') ∨ (e = .returned (.bool false) ∧ ∃ q, q <+: pre ++ ps ∧ Jx q W') := by
  intro k
  induction k with
  | zero => intro x ps h; cases h
  | succ k ih =>
    intro x ps h A c hC pre W hW hj hN
    have hu31 := Try.underlying31
    have HIH := Aside0.mk ih
    have HC := Aside0.mk hC
    have HW := Aside0.mk hW
    have HJ0 := Aside0.mk hj
    have HJB := Aside0.mk hJ
    have HY := Aside0.mk hY
    clear ih hC hj hJ hY
    simp only [panesK] at h
    have hle := hW.size
    unfold treeV
    by_cases h0 : x.f0 = 0
    · rw [if_pos h0] at h
      obtain rfl := Option.some.inj h
      have c0 : (x.f0 == 0) = true := beq_iff_eq.2 h0
      clear h h0
      refine callsIn_of_wp Try.func98 rfl trivial ?_ rfl
      simp only [Try.ntmps98, List.size_toArray, List.length_cons, List.length_nil, Nat.reduceAdd, Nat.reduceSub, Array.replicate_succ, Array.replicate_zero, List.push_toArray, List.append_toArray, List.nil_append, List.cons_append]
      have HA := Aside0.mk (Below.alloc (Below.refl W.heap.size W) (Nat.le_refl _) (.cells #[.int .i64 x.f0, .int .i64 x.f1, .int .i64 x.f2, .slice A x.f3.length c] 31))
      obtain ⟨fn, tmps, assign, body, hy, hR⟩ := HY.out pre x.f1 (W.alloc (.cells #[.int .i64 x.f0, .int .i64 x.f1, .int .i64 x.f2, .slice A x.f3.length c] 31)) (HJB.out _ _ _ HJ0.out HA.out) (by simp at hN; omega)
      have HR := Aside0.mk hR
      clear hR hN
      gi_wp2
      refine HR.out.mono ?_
      rintro e W3 (⟨rfl, hJ3, hk3⟩ | ⟨rfl, hJx3⟩)
      · have HJ3 := Aside0.mk hJ3
        have HK3 := Aside0.mk hk3
        clear hJ3 hk3
        gi_wp2
        go_ret
        exact .inl ⟨rfl, HJ3.out, (HA.out.mono hle).trans HK3.out⟩
      · gi_wp2
        go_ret
        exact .inr ⟨rfl, _, List.prefix_refl _, hJx3⟩
    · rw [if_neg h0] at h
      have c0 : (x.f0 == 0) = false := beq_eq_false_iff_ne.2 h0
      clear h0
      by_cases hlen : x.f3.length < 1000000000000000000
      · rw [if_pos hlen] at h
        have HH := Aside0.mk h
        have HN := Aside0.mk hN
        have HL := Aside0.mk hlen
        have HW0 := Aside0.mk (HW.out.alloc hW.size (.cells #[.int .i64 x.f0, .int .i64 x.f1, .int .i64 x.f2, .slice A x.f3.length c] 31))
        have HJ1 := Aside0.mk (HJB.out _ _ _ HJ0.out (Below.alloc (Below.refl W.heap.size W) (Nat.le_refl _) (.cells #[.int .i64 x.f0, .int .i64 x.f1, .int .i64 x.f2, .slice A x.f3.length c] 31)))
        have HBA := Aside0.mk ((Below.refl w0.heap.size W).alloc hle (.cells #[.int .i64 x.f0, .int .i64 x.f1, .int .i64 x.f2, .slice A x.f3.length c] 31))
        clear h hN hlen HJ0 hW
        refine callsIn_of_wp Try.func98 rfl trivial ?_ rfl
        simp only [Try.ntmps98, List.size_toArray, List.length_cons, List.length_nil, Nat.reduceAdd, Nat.reduceSub, Array.replicate_succ, Array.replicate_zero, List.push_toArray, List.append_toArray, List.nil_append, List.cons_append]
        gi_wp2
        gi_loopw [17] (fun i wr => ∃ j : Nat, i = .int .i64 j ∧ Aside0 (j ≤ x.f3.length ∧ ∃ a, allK (panesK k) (x.f3.take j) = some a ∧ J (pre ++ a) wr ∧ Below w0.heap.size W wr))
          (fun i _ => x.f3.length - (intOf i).toNat)
        case atStart => exact ⟨0, rfl, ⟨Nat.zero_le _, [], rfl, by rw [List.append_nil]; exact HJ1.out, HBA.out⟩⟩
        case round =>
          obtain ⟨j, rfl, HR⟩ := hrel
          obtain ⟨hj, a, ha, hJa, hBa⟩ := HR.out
          have hl := HL.out
          by_cases hlt : j < x.f3.length
          · have c4b0 : decide ((j : Int) < (x.f3.length : Int)) = true := decide_eq_true (by omega)
            have p228 : 0 ≤ (j : Int) := by omega
            have q228 : (j : Int) < (x.f3.length : Int) := by omega
            obtain ⟨b, d, hb, hab, hps⟩ := allK_step HH.out hlt ha
            obtain ⟨ad228, A3, c3, e228, hx0, hx1, hx2, hx3, hc3, hC3⟩ := at_T31 HC.out j p228 q228
            cases e228
            rw [Int.toNat_natCast] at hx0 hx1 hx2 hx3
            have hBw := HW.out.trans hBa
            replace hx0 := (hBw.cell (World.block_lt_of_cell? w0 _ hx0)).trans hx0
            replace hx1 := (hBw.cell (World.block_lt_of_cell? w0 _ hx1)).trans hx1
            replace hx2 := (hBw.cell (World.block_lt_of_cell? w0 _ hx2)).trans hx2
            replace hx3 := (hBw.cell (World.block_lt_of_cell? w0 _ hx3)).trans hx3
            generalize hkid : rd_T31 x.f3 (j : Int) = y at hx0 hx1 hx2 hx3 hc3 hC3 hb
            replace p228 := eq_true p228
            replace q228 := eq_true q228
            have HAL := Aside0.mk (Below.alloc (Below.refl wr.heap.size wr) (Nat.le_refl _) (.cells #[.int .i64 y.f0, .int .i64 y.f1, .int .i64 y.f2, .slice A3 y.f3.length c3] 31))
            have HKID := Aside0.mk (HIH.out y b hb A3 c3 hC3 (pre ++ a) (wr.alloc (.cells #[.int .i64 y.f0, .int .i64 y.f1, .int .i64 y.f2, .slice A3 y.f3.length c3] 31)) (hBw.trans (HAL.out.mono hBw.size)) (HJB.out _ _ _ hJa HAL.out) (by have := HN.out; rw [hps] at this; simp only [List.length_append] at this ⊢; omega))
            have HBW := Aside0.mk (hBa.trans (HAL.out.mono hBw.size))
            have HAB := Aside0.mk hab
            have HPS := Aside0.mk hps
            unfold treeV at HKID
            clear hkid hb hab hps hC3 hc3 hBw hJa hBa HR ha
            gi_wp2
            refine ⟨trivial, ?_⟩
            refine (callsIn_wide.2 (callsIn_wide.1 HKID.out)).mono ?_
            rintro e w5 (⟨rfl, hj5, hb5⟩ | ⟨rfl, q, hq, hx5⟩)
            · have HJ5 := Aside0.mk hj5
              have HB5 := Aside0.mk hb5
              clear hj5 hb5
              gi_wp2
              go_roundw
              case rel => exact ⟨j + 1, by simp, ⟨by omega, a ++ b, HAB.out, by rw [← List.append_assoc]; exact HJ5.out, HBW.out.trans HB5.out⟩⟩
              case measure => simp [intOf]; omega
            · have HQ := Aside0.mk hq
              have HX := Aside0.mk hx5
              clear hq hx5
              gi_wp2
              go_ret
              refine .inr ⟨rfl, q, ?_, HX.out⟩
              rw [HPS.out]
              exact HQ.out.trans (by rw [List.append_assoc, List.append_assoc]; exact ⟨d, by simp⟩)
          · obtain rfl : j = x.f3.length := by omega
            have c4b0 : decide ((x.f3.length : Int) < (x.f3.length : Int)) = false := decide_eq_false (by omega)
            have hps : ps = a := by
              have h1 := HH.out
              rw [List.take_length] at ha
              rw [h1] at ha
              exact Option.some.inj ha
            have HPS := Aside0.mk hps
            have HJa := Aside0.mk hJa
            have HBa := Aside0.mk hBa
            clear hps hJa hBa HR ha
            gi_wp2
            go_ret
            exact .inl ⟨rfl, by rw [HPS.out]; exact HJa.out, HBa.out⟩
      · rw [if_neg hlen] at h; cases h
def treeC (x : S31) (A : Option Addr) (c : Nat) : Array Value := #[.int .i64 x.f0, .int .i64 x.f1, .int .i64 x.f2, .slice A x.f3.length c]
theorem panes_any (x : S31) (A : Option Addr) (c : Nat) (w : World) : Calls Try.prog 60 #[treeV x A c] w fun e w' => e = .returned (.func (.func 97) #[] #[.pointer (some ⟨w.heap.size, 0, none⟩)]) ∧ w' = w.alloc (.cells (treeC x A c) 31) := by
  have hu31 := Try.underlying31
  unfold treeV treeC
  go_enter Try.func60, Try.ntmps60
  go_wp2
  go_ret
  exact ⟨rfl, rfl⟩
set_option maxRecDepth 100000 in
set_option maxHeartbeats 4000000 in
theorem panes_stops (k Bt : Nat) (x : S31) (A : Option Addr) (c : Nat) (ps : List Int) (wb w0 : World) (hwb : Below wb.heap.size wb w0) (hp : panesK k x = some ps) (hBt : w0.heap[Bt]? = some (.cells (treeC x A c) 31 (0, 0))) (hC : Kd.C k31 wb A x.f3.length x.f3) :
    SeqStopsK Fence.wide 4 Try.prog 97 #[.pointer (some ⟨Bt, 0, none⟩)] (fun p : Int => #[.int .i64 p]) (Below wb.heap.size) (fun ys => ys = ps) (fun q => q <+: ps) ps.length w0 := by
  intro l J Jx W hW hJ hJx hY h0
  have hu31 := Try.underlying31
  have HE := Aside0.mk (each_in l J Jx wb ps.length (abides_below' hJ) hY k x ps hp A c hC [] W (hwb.trans (hW.mono hwb.size)) h0 (by simp))
  have hb := blk_below hBt hW
  have z0 : W.cell? ⟨Bt, 0, none⟩ = some (.int .i64 x.f0) := (blk_cell hb 0).trans rfl
  have z1 : W.cell? ⟨Bt, 1, none⟩ = some (.int .i64 x.f1) := (blk_cell hb 1).trans rfl
  have z2 : W.cell? ⟨Bt, 2, none⟩ = some (.int .i64 x.f2) := (blk_cell hb 2).trans rfl
  have z3 : W.cell? ⟨Bt, 3, none⟩ = some (.slice A x.f3.length c) := (blk_cell hb 3).trans rfl
  clear hY hb hp
  unfold treeV at HE
  refine callsIn_of_wp Try.func97 rfl trivial ?_ rfl
  simp only [Try.ntmps97, List.size_toArray, List.length_cons, List.length_nil, Nat.reduceAdd, Nat.reduceSub, Array.replicate_succ, Array.replicate_zero, List.push_toArray, List.append_toArray, List.nil_append, List.cons_append]
  gi_wp2
  refine ⟨trivial, ?_⟩
  refine (callsIn_wide.2 (callsIn_wide.1 HE.out)).mono ?_
  rintro e W3 (⟨rfl, hj, _⟩ | ⟨rfl, q, hq, hx⟩)
  · gi_wp2
    go_end0
    exact ⟨⟨_, rfl⟩, .inl ⟨ps, rfl, hj⟩⟩
  · gi_wp2
    go_end0
    exact ⟨⟨_, rfl⟩, .inr ⟨q, hq, hx⟩⟩
end Go.Proofs.Ytplngfammfdemaa
end
section
namespace Go.Proofs.Ytplngfammfdemaa.Q
open Go.RowKit Go.Proofs.Ytplngfammfdemaa Go.Proofs.YtplngfammfdemaaW.PrintWords Go.Proofs.YtplngfammfdemaaW.PrintLast Go.Proofs.YtplngfammfdemaaW.PrintMore
attribute [local go_sem] max2_int min2_int max_two min_two max_three min_three max_four min_four   -- for this text's walks alone
set_option linter.unusedVariables false
set_option linter.unusedSimpArgs false
def tree_in.f (a0 : Int) (a1 : Int) (a2 : Int) : Option (Bool) := if a0 ≥ a1 then (some (decide (a0 ≤ a2))) else (some false)
set_option maxHeartbeats 8000000 in
set_option maxRecDepth 100000 in
theorem tree_in.calls (a0 : Int) (a1 : Int) (a2 : Int) (r : Bool) (w : World) (h : tree_in.f a0 a1 a2 = some r) :
    Calls Try.prog 82 #[.int .i64 a0, .int .i64 a1, .int .i64 a2] w fun e w' => e = .returned (.bool r) ∧ Drawn0 w w' := by
  have H : (if a0 ≥ a1 then (some (decide (a0 ≤ a2))) else (some false)) = some r := h
  clear h
  by_cases c4 : a0 ≥ a1
  · rw [if_pos c4] at H
    have c4b0 : decide (a1 ≤ a0) = true := decide_eq_true c4
    clear c4
    obtain rfl := Option.some.inj H
    go_enter Try.func82, Try.ntmps82
    go_wp2
    go_ret
    exact ⟨by first | rfl | (simp; done) | (simp [*]; done), by repeat (first | exact Drawn0.refl _ | apply Drawn0.step)⟩
  · rw [if_neg c4] at H
    have c4b0 : decide (a1 ≤ a0) = false := decide_eq_false c4
    clear c4
    obtain rfl := Option.some.inj H
    go_enter Try.func82, Try.ntmps82
    go_wp2
    go_ret
    exact ⟨by first | rfl | (simp; done) | (simp [*]; done), by repeat (first | exact Drawn0.refl _ | apply Drawn0.step)⟩
def tree_along.f (a0 : Int) (a1 : Int) (a2 : Int) : Option (Int) := if a0 = 1 then (some a1) else (some a2)
set_option maxHeartbeats 8000000 in
set_option maxRecDepth 100000 in
theorem tree_along.calls (a0 : Int) (a1 : Int) (a2 : Int) (r : Int) (w : World) (h : tree_along.f a0 a1 a2 = some r) :
    Calls Try.prog 85 #[.int .i64 a0, .int .i64 a1, .int .i64 a2] w fun e w' => e = .returned (.int .i64 r) ∧ Drawn0 w w' := by
  have H : (if a0 = 1 then (some a1) else (some a2)) = some r := h
  clear h
  by_cases c4 : a0 = 1
  · rw [if_pos c4] at H
    have c4b0 : (a0 == 1) = true := beq_iff_eq.mpr c4
    have c4b1 : (a0 != 1) = false := bne_eq_false_iff_eq.mpr c4
    clear c4
    obtain rfl := Option.some.inj H
    go_enter Try.func85, Try.ntmps85
    go_wp2
    go_ret
    exact ⟨by first | rfl | (simp; done) | (simp [*]; done), by repeat (first | exact Drawn0.refl _ | apply Drawn0.step)⟩
  · rw [if_neg c4] at H
    have c4b0 : (a0 == 1) = false := beq_eq_false_iff_ne.mpr c4
    have c4b1 : (a0 != 1) = true := bne_iff_ne.mpr c4
    obtain rfl := Option.some.inj H
    go_enter Try.func85, Try.ntmps85
    go_wp2
    go_ret
    exact ⟨by first | rfl | (simp; done) | (simp [*]; done), by repeat (first | exact Drawn0.refl _ | apply Drawn0.step)⟩
def tree_sized.f (a0 : Int) (a1_0 : Int) (a1_1 : Int) (a1_2 : Int) (l1_3 : List (S31)) (a2 : Int) (a3 : Int) : Option (Int × Int) := if a0 = 1 then (some (a1_2, a3)) else (some (a2, a1_2))
set_option maxHeartbeats 8000000 in
set_option maxRecDepth 100000 in
theorem tree_sized.calls (a0 : Int) (a1_0 : Int) (a1_1 : Int) (a1_2 : Int) (A1_3 : Option Addr) (c1_3 : Nat) (l1_3 : List (S31)) (a2 : Int) (a3 : Int) (r1 : Int) (r2 : Int) (w : World) (hr1_3 : Kd.C k31 w A1_3 l1_3.length l1_3) (hc1_3 : l1_3.length ≤ c1_3) (h : tree_sized.f a0 a1_0 a1_1 a1_2 l1_3 a2 a3 = some (r1, r2)) :
    Calls Try.prog 96 #[.int .i64 a0, .agg #[.int .i64 a1_0, .int .i64 a1_1, .int .i64 a1_2, .slice A1_3 l1_3.length c1_3], .int .i64 a2, .int .i64 a3] w fun e w' => e = .returned (.tuple #[.int .i64 r1, .int .i64 r2]) ∧ Below w.heap.size w w' := by
  have hu31 := Try.underlying31
  have HR1_3 := Aside0.mk hr1_3
  have HC1_3 := Aside0.mk hc1_3
  clear hr1_3 hc1_3
  have HB := Aside0.mk (Below.refl w.heap.size w)
  have H : (if a0 = 1 then (some (a1_2, a3)) else (some (a2, a1_2))) = some (r1, r2) := h
  clear h
  by_cases c5 : a0 = 1
  · rw [if_pos c5] at H
    have c5b0 : (a0 == 1) = true := beq_iff_eq.mpr c5
    have c5b1 : (a0 != 1) = false := bne_eq_false_iff_eq.mpr c5
    clear c5
    simp only [Option.some.injEq, Prod.mk.injEq] at H
    obtain ⟨rfl, rfl⟩ := H
    go_enter Try.func96, Try.ntmps96
    go_wp2_with (first | ((with_reducible refine gate_dst (N := 5) rfl ?_); refine box_event ?hg (N := 5) ?hd (cs := #[.int .i64 a1_0, .int .i64 a1_1, .int .i64 a1_2, .slice A1_3 l1_3.length c1_3]) (t := 31) ?hr ?_; (case hd => rfl); (case hg => rfl); (case hr => first | (go_simp; done) | (go_simp; rfl)); intro gb101 hg w6 hbox hb; have n0_ := Aside0.mk (below_step (by repeat (first | (with_reducible first | exact HB.out | apply below_alloc | apply pw_below_drewN | apply below_drew1) | exact HB.out)) hb); have n1_ := Aside0.mk (hbox); have n2_ := Aside0.mk ((by rw [hg]; exact (below_size (by repeat (first | (with_reducible first | exact HB.out | apply below_alloc | apply pw_below_drewN | apply below_drew1) | exact HB.out))) : w.heap.size ≤ gb101)); have n3_ := Aside0.mk ((by rw [hg]; exact (below_size (by repeat (first | (with_reducible first | exact HB.out | apply below_alloc | apply pw_below_drewN | apply below_drew1) | exact HB.out))) : w.heap.size ≤ gb101)); clear HB; have HB := n0_; have BK101 := n1_; have GW101 := n2_; have GE101 := n3_; clear n0_ n1_ n2_ n3_; clear hb hbox hg; have hcz7_0 : w6.cell? ⟨gb101, 0, none⟩ = some (.int .i64 a1_0) := (blk_cell BK101.out 0).trans rfl; have hcz7_1 : w6.cell? ⟨gb101, 1, none⟩ = some (.int .i64 a1_1) := (blk_cell BK101.out 1).trans rfl; have hcz7_2 : w6.cell? ⟨gb101, 2, none⟩ = some (.int .i64 a1_2) := (blk_cell BK101.out 2).trans rfl; have hcz7_3 : w6.cell? ⟨gb101, 3, none⟩ = some (.slice A1_3 l1_3.length c1_3) := (blk_cell BK101.out 3).trans rfl; have hfz7_0 := blk_frozen BK101.out 0; have hfz7_1 := blk_frozen BK101.out 1; have hfz7_2 := blk_frozen BK101.out 2; have hfz7_3 := blk_frozen BK101.out 3))
    repeat (go_quiet (first | ((with_reducible refine gate_dst (N := 5) rfl ?_); refine box_event ?hg (N := 5) ?hd (cs := #[.int .i64 a1_0, .int .i64 a1_1, .int .i64 a1_2, .slice A1_3 l1_3.length c1_3]) (t := 31) ?hr ?_; (case hd => rfl); (case hg => rfl); (case hr => first | (go_simp; done) | (go_simp; rfl)); intro gb101 hg w6 hbox hb; have n0_ := Aside0.mk (below_step (by repeat (first | (with_reducible first | exact HB.out | apply below_alloc | apply pw_below_drewN | apply below_drew1) | exact HB.out)) hb); have n1_ := Aside0.mk (hbox); have n2_ := Aside0.mk ((by rw [hg]; exact (below_size (by repeat (first | (with_reducible first | exact HB.out | apply below_alloc | apply pw_below_drewN | apply below_drew1) | exact HB.out))) : w.heap.size ≤ gb101)); have n3_ := Aside0.mk ((by rw [hg]; exact (below_size (by repeat (first | (with_reducible first | exact HB.out | apply below_alloc | apply pw_below_drewN | apply below_drew1) | exact HB.out))) : w.heap.size ≤ gb101)); clear HB; have HB := n0_; have BK101 := n1_; have GW101 := n2_; have GE101 := n3_; clear n0_ n1_ n2_ n3_; clear hb hbox hg; have hcz7_0 : w6.cell? ⟨gb101, 0, none⟩ = some (.int .i64 a1_0) := (blk_cell BK101.out 0).trans rfl; have hcz7_1 : w6.cell? ⟨gb101, 1, none⟩ = some (.int .i64 a1_1) := (blk_cell BK101.out 1).trans rfl; have hcz7_2 : w6.cell? ⟨gb101, 2, none⟩ = some (.int .i64 a1_2) := (blk_cell BK101.out 2).trans rfl; have hcz7_3 : w6.cell? ⟨gb101, 3, none⟩ = some (.slice A1_3 l1_3.length c1_3) := (blk_cell BK101.out 3).trans rfl; have hfz7_0 := blk_frozen BK101.out 0; have hfz7_1 := blk_frozen BK101.out 1; have hfz7_2 := blk_frozen BK101.out 2; have hfz7_3 := blk_frozen BK101.out 3)); try go_wp2_with (first | ((with_reducible refine gate_dst (N := 5) rfl ?_); refine box_event ?hg (N := 5) ?hd (cs := #[.int .i64 a1_0, .int .i64 a1_1, .int .i64 a1_2, .slice A1_3 l1_3.length c1_3]) (t := 31) ?hr ?_; (case hd => rfl); (case hg => rfl); (case hr => first | (go_simp; done) | (go_simp; rfl)); intro gb101 hg w6 hbox hb; have n0_ := Aside0.mk (below_step (by repeat (first | (with_reducible first | exact HB.out | apply below_alloc | apply pw_below_drewN | apply below_drew1) | exact HB.out)) hb); have n1_ := Aside0.mk (hbox); have n2_ := Aside0.mk ((by rw [hg]; exact (below_size (by repeat (first | (with_reducible first | exact HB.out | apply below_alloc | apply pw_below_drewN | apply below_drew1) | exact HB.out))) : w.heap.size ≤ gb101)); have n3_ := Aside0.mk ((by rw [hg]; exact (below_size (by repeat (first | (with_reducible first | exact HB.out | apply below_alloc | apply pw_below_drewN | apply below_drew1) | exact HB.out))) : w.heap.size ≤ gb101)); clear HB; have HB := n0_; have BK101 := n1_; have GW101 := n2_; have GE101 := n3_; clear n0_ n1_ n2_ n3_; clear hb hbox hg; have hcz7_0 : w6.cell? ⟨gb101, 0, none⟩ = some (.int .i64 a1_0) := (blk_cell BK101.out 0).trans rfl; have hcz7_1 : w6.cell? ⟨gb101, 1, none⟩ = some (.int .i64 a1_1) := (blk_cell BK101.out 1).trans rfl; have hcz7_2 : w6.cell? ⟨gb101, 2, none⟩ = some (.int .i64 a1_2) := (blk_cell BK101.out 2).trans rfl; have hcz7_3 : w6.cell? ⟨gb101, 3, none⟩ = some (.slice A1_3 l1_3.length c1_3) := (blk_cell BK101.out 3).trans rfl; have hfz7_0 := blk_frozen BK101.out 0; have hfz7_1 := blk_frozen BK101.out 1; have hfz7_2 := blk_frozen BK101.out 2; have hfz7_3 := blk_frozen BK101.out 3)))
    go_ret2
    exact ⟨by first | rfl | (simp [errW_none, errW_some] <;> rfl) | (simp [*, errW_none, errW_some] <;> rfl), by repeat (first | (with_reducible first | exact HB.out | apply below_alloc | apply pw_below_drewN | apply below_drew1 | refine below_set ?_ GE101.out) | exact HB.out)⟩
  · rw [if_neg c5] at H
    have c5b0 : (a0 == 1) = false := beq_eq_false_iff_ne.mpr c5
    have c5b1 : (a0 != 1) = true := bne_iff_ne.mpr c5
    simp only [Option.some.injEq, Prod.mk.injEq] at H
    obtain ⟨rfl, rfl⟩ := H
    go_enter Try.func96, Try.ntmps96
    go_wp2_with (first | ((with_reducible refine gate_dst (N := 5) rfl ?_); refine box_event ?hg (N := 5) ?hd (cs := #[.int .i64 a1_0, .int .i64 a1_1, .int .i64 a1_2, .slice A1_3 l1_3.length c1_3]) (t := 31) ?hr ?_; (case hd => rfl); (case hg => rfl); (case hr => first | (go_simp; done) | (go_simp; rfl)); intro gb101 hg w8 hbox hb; have n0_ := Aside0.mk (below_step (by repeat (first | (with_reducible first | exact HB.out | apply below_alloc | apply pw_below_drewN | apply below_drew1) | exact HB.out)) hb); have n1_ := Aside0.mk (hbox); have n2_ := Aside0.mk ((by rw [hg]; exact (below_size (by repeat (first | (with_reducible first | exact HB.out | apply below_alloc | apply pw_below_drewN | apply below_drew1) | exact HB.out))) : w.heap.size ≤ gb101)); have n3_ := Aside0.mk ((by rw [hg]; exact (below_size (by repeat (first | (with_reducible first | exact HB.out | apply below_alloc | apply pw_below_drewN | apply below_drew1) | exact HB.out))) : w.heap.size ≤ gb101)); clear HB; have HB := n0_; have BK101 := n1_; have GW101 := n2_; have GE101 := n3_; clear n0_ n1_ n2_ n3_; clear hb hbox hg; have hcz9_0 : w8.cell? ⟨gb101, 0, none⟩ = some (.int .i64 a1_0) := (blk_cell BK101.out 0).trans rfl; have hcz9_1 : w8.cell? ⟨gb101, 1, none⟩ = some (.int .i64 a1_1) := (blk_cell BK101.out 1).trans rfl; have hcz9_2 : w8.cell? ⟨gb101, 2, none⟩ = some (.int .i64 a1_2) := (blk_cell BK101.out 2).trans rfl; have hcz9_3 : w8.cell? ⟨gb101, 3, none⟩ = some (.slice A1_3 l1_3.length c1_3) := (blk_cell BK101.out 3).trans rfl; have hfz9_0 := blk_frozen BK101.out 0; have hfz9_1 := blk_frozen BK101.out 1; have hfz9_2 := blk_frozen BK101.out 2; have hfz9_3 := blk_frozen BK101.out 3))
    repeat (go_quiet (first | ((with_reducible refine gate_dst (N := 5) rfl ?_); refine box_event ?hg (N := 5) ?hd (cs := #[.int .i64 a1_0, .int .i64 a1_1, .int .i64 a1_2, .slice A1_3 l1_3.length c1_3]) (t := 31) ?hr ?_; (case hd => rfl); (case hg => rfl); (case hr => first | (go_simp; done) | (go_simp; rfl)); intro gb101 hg w8 hbox hb; have n0_ := Aside0.mk (below_step (by repeat (first | (with_reducible first | exact HB.out | apply below_alloc | apply pw_below_drewN | apply below_drew1) | exact HB.out)) hb); have n1_ := Aside0.mk (hbox); have n2_ := Aside0.mk ((by rw [hg]; exact (below_size (by repeat (first | (with_reducible first | exact HB.out | apply below_alloc | apply pw_below_drewN | apply below_drew1) | exact HB.out))) : w.heap.size ≤ gb101)); have n3_ := Aside0.mk ((by rw [hg]; exact (below_size (by repeat (first | (with_reducible first | exact HB.out | apply below_alloc | apply pw_below_drewN | apply below_drew1) | exact HB.out))) : w.heap.size ≤ gb101)); clear HB; have HB := n0_; have BK101 := n1_; have GW101 := n2_; have GE101 := n3_; clear n0_ n1_ n2_ n3_; clear hb hbox hg; have hcz9_0 : w8.cell? ⟨gb101, 0, none⟩ = some (.int .i64 a1_0) := (blk_cell BK101.out 0).trans rfl; have hcz9_1 : w8.cell? ⟨gb101, 1, none⟩ = some (.int .i64 a1_1) := (blk_cell BK101.out 1).trans rfl; have hcz9_2 : w8.cell? ⟨gb101, 2, none⟩ = some (.int .i64 a1_2) := (blk_cell BK101.out 2).trans rfl; have hcz9_3 : w8.cell? ⟨gb101, 3, none⟩ = some (.slice A1_3 l1_3.length c1_3) := (blk_cell BK101.out 3).trans rfl; have hfz9_0 := blk_frozen BK101.out 0; have hfz9_1 := blk_frozen BK101.out 1; have hfz9_2 := blk_frozen BK101.out 2; have hfz9_3 := blk_frozen BK101.out 3)); try go_wp2_with (first | ((with_reducible refine gate_dst (N := 5) rfl ?_); refine box_event ?hg (N := 5) ?hd (cs := #[.int .i64 a1_0, .int .i64 a1_1, .int .i64 a1_2, .slice A1_3 l1_3.length c1_3]) (t := 31) ?hr ?_; (case hd => rfl); (case hg => rfl); (case hr => first | (go_simp; done) | (go_simp; rfl)); intro gb101 hg w8 hbox hb; have n0_ := Aside0.mk (below_step (by repeat (first | (with_reducible first | exact HB.out | apply below_alloc | apply pw_below_drewN | apply below_drew1) | exact HB.out)) hb); have n1_ := Aside0.mk (hbox); have n2_ := Aside0.mk ((by rw [hg]; exact (below_size (by repeat (first | (with_reducible first | exact HB.out | apply below_alloc | apply pw_below_drewN | apply below_drew1) | exact HB.out))) : w.heap.size ≤ gb101)); have n3_ := Aside0.mk ((by rw [hg]; exact (below_size (by repeat (first | (with_reducible first | exact HB.out | apply below_alloc | apply pw_below_drewN | apply below_drew1) | exact HB.out))) : w.heap.size ≤ gb101)); clear HB; have HB := n0_; have BK101 := n1_; have GW101 := n2_; have GE101 := n3_; clear n0_ n1_ n2_ n3_; clear hb hbox hg; have hcz9_0 : w8.cell? ⟨gb101, 0, none⟩ = some (.int .i64 a1_0) := (blk_cell BK101.out 0).trans rfl; have hcz9_1 : w8.cell? ⟨gb101, 1, none⟩ = some (.int .i64 a1_1) := (blk_cell BK101.out 1).trans rfl; have hcz9_2 : w8.cell? ⟨gb101, 2, none⟩ = some (.int .i64 a1_2) := (blk_cell BK101.out 2).trans rfl; have hcz9_3 : w8.cell? ⟨gb101, 3, none⟩ = some (.slice A1_3 l1_3.length c1_3) := (blk_cell BK101.out 3).trans rfl; have hfz9_0 := blk_frozen BK101.out 0; have hfz9_1 := blk_frozen BK101.out 1; have hfz9_2 := blk_frozen BK101.out 2; have hfz9_3 := blk_frozen BK101.out 3)))
    go_ret2
    exact ⟨by first | rfl | (simp [errW_none, errW_some] <;> rfl) | (simp [*, errW_none, errW_some] <;> rfl), by repeat (first | (with_reducible first | exact HB.out | apply below_alloc | apply pw_below_drewN | apply below_drew1 | refine below_set ?_ GE101.out) | exact HB.out)⟩
end Go.Proofs.Ytplngfammfdemaa.Q
end
section
namespace Go.Proofs.Ytplngfammfdemaa
open Go.RowKit Go.Proofs.YtplngfammfdemaaW.PrintWords Go.Proofs.YtplngfammfdemaaW.PrintLast
theorem bb {w w1 : World} {g : Nat} {o : Obj} (hb : Below w.heap.size w w1) (h : w.heap[g]? = some o) : w1.heap[g]? = some o := blk_below h hb
theorem lt1 {w : World} {g : Nat} {o : Obj} (h : w.heap[g]? = some o) : g ≠ w.heap.size := Nat.ne_of_lt (blk_lt h)
theorem gt1 {w : World} {g : Nat} {o : Obj} (h : w.heap[g]? = some o) : w.heap.size ≠ g := Nat.ne_of_gt (blk_lt h)
theorem s1 {α : Type} {a : List α} {i : Nat} {v : α} : a.toArray.setIfInBounds i v = (a.set i v).toArray := List.setIfInBounds_toArray _ _ _
theorem s2 {α : Type} {a : α} {l : List α} {v : α} : (a :: l).set 0 v = v :: l := List.set_cons_zero
theorem s3 {α : Type} {a : α} {l : List α} {i : Nat} {v : α} : (a :: l).set (i + 1) v = a :: l.set i v := List.set_cons_succ
def mk_ (n b : Nat) : Array Bool := ((List.range n).map fun i => b.testBit i).toArray
section
variable {P : Program} {md : Region.Mode} {ops : Array Oper} {Q : Exit → Act → World → Prop} {S : World → Prop} {ds : List Nat}
theorem pv {T : Bool × List (List Nat × List Nat)} {oi : Oper} {v : Value} {fuel : Nat} {l : Array Bool} {a : Act} {w : World} {a' : Act} (hT : rtab md ops = T) (i : Nat) (N : Option Tmp) (l' : Array Bool)
    (hr : ∀ w, (execOp a.eval oi).run P w = .ok (.value v) w) (ha : a.put N v = a') (h : wpAnyLast P md ops Q S ds fuel l' a' w) (hi : ops[i]? = some oi := by rfl) (hN : oi.dst = N := by rfl) (hc : anyT T l.toList l'.toList i = true := by kernel_rfl)
    (hQ : ∀ c a w, Q (.panic c) (a.put oi.dst v) w → Q (.panic c) a w := by exact fun _ _ _ h => h) (hw : Region.wanted oi (yielded ops a.tmps) = true := by rfl) : wpAnyLast P md ops Q S ds (fuel + 1) l a w := pure_ l' hi hN (any_of hT hc) hQ (Or.inl ⟨hw, hr⟩) ha h
theorem ga {rest : List Oper} {oi : Oper} {a : Act} {w : World} (N : Option Tmp) (hd : oi.dst = N) (hg : oi.guard = none) {f : FuncId} {fn : Func} {os_ : Array Operand} {ts : Array TypeId} (hf : P.funcs[f]? = some fn) (hname : (fn.name == "runtime.NumGoroutine") = false) (hb : fn.body.isSome = true) (args : Array Value)
    (hop : oi.op = .call { callee := .value (.func f), args := os_, argTypes := ts }) (h : Calls P f args w fun e w' => ∃ v, e = .returned v ∧ wpList P ops Q rest (a.put N v) w') (hargs : os_.map a.eval = args := by (try simp only [List.map_toArray, List.map_cons, List.map_nil]); first | done | rfl | (simp only [List.length_drop, List.length_take]; rfl)) : wpList P ops Q (oi :: rest) a w := goesL_ N hd hg hf hname hb args hop hargs h
end
theorem put4 {w : World} {g : Nat} {t : TypeId} {u0 u1 u2 u3 v0 v1 v2 v3 : Value} (h : w.heap[g]? = some (.cells #[u0, u1, u2, u3] t (0, 0))) : ((((w.setCell ⟨g, 0, none⟩ v0).setCell ⟨g, 1, none⟩ v1).setCell ⟨g, 2, none⟩ v2).setCell ⟨g, 3, none⟩ v3).heap[g]? = some (.cells #[v0, v1, v2, v3] t (0, 0)) := blk_put (blk_put (blk_put (blk_put (h) 0 _ rfl) 1 _ rfl) 2 _ rfl) 3 _ rfl
theorem far4 {w : World} {g g' : Nat} {t : TypeId} {cs : Array Value} {v0 v1 v2 v3 : Value} (hp : g ≠ g') (h : w.heap[g]? = some (.cells cs t (0, 0))) : ((((w.setCell ⟨g', 0, none⟩ v0).setCell ⟨g', 1, none⟩ v1).setCell ⟨g', 2, none⟩ v2).setCell ⟨g', 3, none⟩ v3).heap[g]? = some (.cells cs t (0, 0)) := blk_far (blk_far (blk_far (blk_far (h) hp _) hp _) hp _) hp _
theorem cz4 {w : World} {g : Nat} {t : TypeId} {u0 u1 u2 u3 : Value} (h : w.heap[g]? = some (.cells #[u0, u1, u2, u3] t (0, 0))) : w.cell? ⟨g, 0, none⟩ = some u0 ∧ w.cell? ⟨g, 1, none⟩ = some u1 ∧ w.cell? ⟨g, 2, none⟩ = some u2 ∧ w.cell? ⟨g, 3, none⟩ = some u3 ∧ w.frozen? ⟨g, 0, none⟩ = false ∧ w.frozen? ⟨g, 1, none⟩ = false ∧ w.frozen? ⟨g, 2, none⟩ = false ∧ w.frozen? ⟨g, 3, none⟩ = false := ⟨(blk_cell h 0).trans rfl, (blk_cell h 1).trans rfl, (blk_cell h 2).trans rfl, (blk_cell h 3).trans rfl, blk_frozen h 0, blk_frozen h 1, blk_frozen h 2, blk_frozen h 3⟩
theorem cz5 {w : World} {g : Nat} {t : TypeId} {u0 u1 u2 u3 u4 : Value} (h : w.heap[g]? = some (.cells #[u0, u1, u2, u3, u4] t (0, 0))) : w.cell? ⟨g, 0, none⟩ = some u0 ∧ w.cell? ⟨g, 1, none⟩ = some u1 ∧ w.cell? ⟨g, 2, none⟩ = some u2 ∧ w.cell? ⟨g, 3, none⟩ = some u3 ∧ w.cell? ⟨g, 4, none⟩ = some u4 ∧ w.frozen? ⟨g, 0, none⟩ = false ∧ w.frozen? ⟨g, 1, none⟩ = false ∧ w.frozen? ⟨g, 2, none⟩ = false ∧ w.frozen? ⟨g, 3, none⟩ = false ∧ w.frozen? ⟨g, 4, none⟩ = false := ⟨(blk_cell h 0).trans rfl, (blk_cell h 1).trans rfl, (blk_cell h 2).trans rfl, (blk_cell h 3).trans rfl, (blk_cell h 4).trans rfl, blk_frozen h 0, blk_frozen h 1, blk_frozen h 2, blk_frozen h 3, blk_frozen h 4⟩
abbrev zS := @below_set
abbrev zN := @pw_below_drewN
abbrev zD := @below_drew1
abbrev zA := @below_alloc
abbrev zM := @Aside0.mk
abbrev zL := @World.block_lt_of_cell?
end Go.Proofs.Ytplngfammfdemaa
end
