-- A copy of the text YtplngfammfdemaaGPanes with what this claim does not reach left out (prune.py, a program of this project).
import Derived.Test.YtplngfammfdemaaZtGMul
import Derived.Test.YtplngfammfdemaaZtGEachC
namespace Go.Proofs.Ytplngfammfdemaa
open Go.RowKit Go.Shelf Go.Proofs.YtplngfammfdemaaW.PrintWords Go.Proofs.YtplngfammfdemaaW.PrintLast Go.Proofs.YtplngfammfdemaaW.PrintMore Q
attribute [local go_sem] Oper.semAt_some
set_option linter.unusedVariables false
set_option linter.unusedSimpArgs false
def allK (f : S31 → Option (List Int)) : List S31 → Option (List Int)
  | [] => some []
  | x :: l => (f x).bind fun a => (allK f l).bind fun b => some (a ++ b)
def panesK : Nat → S31 → Option (List Int)
  | 0, _ => none
  | k + 1, t => if t.f0 = 0 then some [t.f1] else if t.f3.length < 1000000000000000000 then allK (panesK k) t.f3 else none
theorem allK_snoc (f : S31 → Option (List Int)) (l : List S31) (x : S31) : allK f (l ++ [x]) = (allK f l).bind fun a => (f x).bind fun b => some (a ++ b) := by
  induction l with
  | nil => simp [allK]
  | cons y l ih =>
    simp only [List.cons_append, allK, ih]
    cases f y with
    | none => rfl
    | some a =>
      cases allK f l with
      | none => rfl
      | some b => cases f x <;> simp
theorem allK_take {f : S31 → Option (List Int)} {l : List S31} {r : List Int} (h : allK f l = some r) : ∀ i, i ≤ l.length → ∃ a b, allK f (l.take i) = some a ∧ r = a ++ b := by
  induction l generalizing r with
  | nil => intro i hi; exact ⟨[], r, by simp [allK], by simp⟩
  | cons y l ih =>
    intro i hi
    cases i with
    | zero => exact ⟨[], r, rfl, rfl⟩
    | succ i =>
      simp only [allK] at h
      obtain ⟨a, ha, h⟩ := Option.bind_eq_some_iff.1 h
      obtain ⟨b, hb, h⟩ := Option.bind_eq_some_iff.1 h
      obtain rfl := Option.some.inj h
      obtain ⟨c, d, h1, rfl⟩ := ih hb i (by simpa using hi)
      exact ⟨a ++ c, d, by simp [allK, ha, h1], by simp⟩
theorem rd31_get (l : List S31) (i : Nat) (h : i < l.length) : rd_T31 l (i : Int) = l[i] := by
  unfold rd_T31
  rw [Int.toNat_natCast, List.getD_eq_getElem?_getD, List.getElem?_eq_getElem h]; rfl
/-- One kid on. -/
theorem allK_step {f : S31 → Option (List Int)} {l : List S31} {r a : List Int} (h : allK f l = some r) {i : Nat} (hi : i < l.length) (ha : allK f (l.take i) = some a) : ∃ b c, f (rd_T31 l (i : Int)) = some b ∧ allK f (l.take (i + 1)) = some (a ++ b) ∧ r = a ++ b ++ c := by
  obtain ⟨a', c, h1, h2⟩ := allK_take h (i + 1) hi
  rw [List.take_succ_eq_append_getElem hi, allK_snoc, ha] at h1
  simp only [Option.bind_some] at h1
  obtain ⟨b, hb, h1⟩ := Option.bind_eq_some_iff.1 h1
  obtain rfl := Option.some.inj h1
  exact ⟨b, c, by rw [rd31_get l i hi]; exact hb, by rw [List.take_succ_eq_append_getElem hi, allK_snoc, ha, hb]; rfl, h2⟩
def treeV (x : S31) (A : Option Addr) (c : Nat) : Value := .agg #[.int .i64 x.f0, .int .i64 x.f1, .int .i64 x.f2, .slice A x.f3.length c]
set_option maxRecDepth 100000 in
set_option maxHeartbeats 4000000 in
theorem each_in (l : Nat) (J Jx : List Int → World → Prop) (w0 : World) (N : Nat) (hJ : ∀ s W W', J s W → Below W.heap.size W W' → J s W')
    (hY : ∀ pre x W, J pre W → pre.length < N → YieldAt Fence.wide 3 Try.prog l #[.int .i64 x] W fun e W' =>
      (e = .returned (.bool true) ∧ J (pre ++ [x]) W' ∧ Below w0.heap.size W W') ∨ (e = .returned (.bool false) ∧ Jx (pre ++ [x]) W')) :
    ∀ k (x : S31) ps, panesK k x = some ps → ∀ A c, Kd.C k31 w0 A x.f3.length x.f3 → ∀ pre W, Below w0.heap.size w0 W → J pre W → pre.length + ps.length ≤ N →
    CallsIn Fence.wide 4 Try.prog 98 #[treeV x A c, .func (.yield l) #[] #[]] W fun e W' =>
      (e = .returned (.bool true) ∧ J (pre ++ ps) W' ∧ Below w0.heap.size W W') ∨ (e = .returned (.bool false) ∧ ∃ q, q <+: pre ++ ps ∧ Jx q W') := by
  intro k
  induction k with
  | zero => intro x ps h; cases h
  | succ k ih =>
    intro x ps h A c hC pre W hW hj hN
    have hu31 := Try.underlying31
    have HIH := Aside0.mk ih
    have HC := Aside0.mk hC
    have HW := Aside0.mk hW
    have HJ0 := Aside0.mk hj
    have HJB := Aside0.mk hJ
    have HY := Aside0.mk hY
    clear ih hC hj hJ hY
    simp only [panesK] at h
    have hle := hW.size
    unfold treeV
    by_cases h0 : x.f0 = 0
    · rw [if_pos h0] at h
      obtain rfl := Option.some.inj h
      have c0 : (x.f0 == 0) = true := beq_iff_eq.2 h0
      clear h h0
      refine callsIn_of_wp Try.func98 rfl trivial ?_ rfl
      simp only [Try.ntmps98, List.size_toArray, List.length_cons, List.length_nil, Nat.reduceAdd, Nat.reduceSub, Array.replicate_succ, Array.replicate_zero, List.push_toArray, List.append_toArray, List.nil_append, List.cons_append]
      have HA := Aside0.mk (Below.alloc (Below.refl W.heap.size W) (Nat.le_refl _) (.cells #[.int .i64 x.f0, .int .i64 x.f1, .int .i64 x.f2, .slice A x.f3.length c] 31))
      obtain ⟨fn, tmps, assign, body, hy, hR⟩ := HY.out pre x.f1 (W.alloc (.cells #[.int .i64 x.f0, .int .i64 x.f1, .int .i64 x.f2, .slice A x.f3.length c] 31)) (HJB.out _ _ _ HJ0.out HA.out) (by simp at hN; omega)
      have HR := Aside0.mk hR
      clear hR hN
      gi_wp2
      refine HR.out.mono ?_
      rintro e W3 (⟨rfl, hJ3, hk3⟩ | ⟨rfl, hJx3⟩)
      · have HJ3 := Aside0.mk hJ3
        have HK3 := Aside0.mk hk3
        clear hJ3 hk3
        gi_wp2
        go_ret
        exact .inl ⟨rfl, HJ3.out, (HA.out.mono hle).trans HK3.out⟩
      · gi_wp2
        go_ret
        exact .inr ⟨rfl, _, List.prefix_refl _, hJx3⟩
    · rw [if_neg h0] at h
      have c0 : (x.f0 == 0) = false := beq_eq_false_iff_ne.2 h0
      clear h0
      by_cases hlen : x.f3.length < 1000000000000000000
      · rw [if_pos hlen] at h
        have HH := Aside0.mk h
        have HN := Aside0.mk hN
        have HL := Aside0.mk hlen
        have HW0 := Aside0.mk (HW.out.alloc hW.size (.cells #[.int .i64 x.f0, .int .i64 x.f1, .int .i64 x.f2, .slice A x.f3.length c] 31))
        have HJ1 := Aside0.mk (HJB.out _ _ _ HJ0.out (Below.alloc (Below.refl W.heap.size W) (Nat.le_refl _) (.cells #[.int .i64 x.f0, .int .i64 x.f1, .int .i64 x.f2, .slice A x.f3.length c] 31)))
        have HBA := Aside0.mk ((Below.refl w0.heap.size W).alloc hle (.cells #[.int .i64 x.f0, .int .i64 x.f1, .int .i64 x.f2, .slice A x.f3.length c] 31))
        clear h hN hlen HJ0 hW
        refine callsIn_of_wp Try.func98 rfl trivial ?_ rfl
        simp only [Try.ntmps98, List.size_toArray, List.length_cons, List.length_nil, Nat.reduceAdd, Nat.reduceSub, Array.replicate_succ, Array.replicate_zero, List.push_toArray, List.append_toArray, List.nil_append, List.cons_append]
        gi_wp2
        gi_loopw [17] (fun i wr => ∃ j : Nat, i = .int .i64 j ∧ Aside0 (j ≤ x.f3.length ∧ ∃ a, allK (panesK k) (x.f3.take j) = some a ∧ J (pre ++ a) wr ∧ Below w0.heap.size W wr))
          (fun i _ => x.f3.length - (intOf i).toNat)
        case atStart => exact ⟨0, rfl, ⟨Nat.zero_le _, [], rfl, by rw [List.append_nil]; exact HJ1.out, HBA.out⟩⟩
        case round =>
          obtain ⟨j, rfl, HR⟩ := hrel
          obtain ⟨hj, a, ha, hJa, hBa⟩ := HR.out
          have hl := HL.out
          by_cases hlt : j < x.f3.length
          · have c4b0 : decide ((j : Int) < (x.f3.length : Int)) = true := decide_eq_true (by omega)
            have p228 : 0 ≤ (j : Int) := by omega
            have q228 : (j : Int) < (x.f3.length : Int) := by omega
            obtain ⟨b, d, hb, hab, hps⟩ := allK_step HH.out hlt ha
            obtain ⟨ad228, A3, c3, e228, hx0, hx1, hx2, hx3, hc3, hC3⟩ := at_T31 HC.out j p228 q228
            cases e228
            rw [Int.toNat_natCast] at hx0 hx1 hx2 hx3
            have hBw := HW.out.trans hBa
            replace hx0 := (hBw.cell (World.block_lt_of_cell? w0 _ hx0)).trans hx0
            replace hx1 := (hBw.cell (World.block_lt_of_cell? w0 _ hx1)).trans hx1
            replace hx2 := (hBw.cell (World.block_lt_of_cell? w0 _ hx2)).trans hx2
            replace hx3 := (hBw.cell (World.block_lt_of_cell? w0 _ hx3)).trans hx3
            generalize hkid : rd_T31 x.f3 (j : Int) = y at hx0 hx1 hx2 hx3 hc3 hC3 hb
            replace p228 := eq_true p228
            replace q228 := eq_true q228
            have HAL := Aside0.mk (Below.alloc (Below.refl wr.heap.size wr) (Nat.le_refl _) (.cells #[.int .i64 y.f0, .int .i64 y.f1, .int .i64 y.f2, .slice A3 y.f3.length c3] 31))
            have HKID := Aside0.mk (HIH.out y b hb A3 c3 hC3 (pre ++ a) (wr.alloc (.cells #[.int .i64 y.f0, .int .i64 y.f1, .int .i64 y.f2, .slice A3 y.f3.length c3] 31)) (hBw.trans (HAL.out.mono hBw.size)) (HJB.out _ _ _ hJa HAL.out) (by have := HN.out; rw [hps] at this; simp only [List.length_append] at this ⊢; omega))
            have HBW := Aside0.mk (hBa.trans (HAL.out.mono hBw.size))
            have HAB := Aside0.mk hab
            have HPS := Aside0.mk hps
            unfold treeV at HKID
            clear hkid hb hab hps hC3 hc3 hBw hJa hBa HR ha
            gi_wp2
            refine ⟨trivial, ?_⟩
            refine (callsIn_wide.2 (callsIn_wide.1 HKID.out)).mono ?_
            rintro e w5 (⟨rfl, hj5, hb5⟩ | ⟨rfl, q, hq, hx5⟩)
            · have HJ5 := Aside0.mk hj5
              have HB5 := Aside0.mk hb5
              clear hj5 hb5
              gi_wp2
              go_roundw
              case rel => exact ⟨j + 1, by simp, ⟨by omega, a ++ b, HAB.out, by rw [← List.append_assoc]; exact HJ5.out, HBW.out.trans HB5.out⟩⟩
              case measure => simp [intOf]; omega
            · have HQ := Aside0.mk hq
              have HX := Aside0.mk hx5
              clear hq hx5
              gi_wp2
              go_ret
              refine .inr ⟨rfl, q, ?_, HX.out⟩
              rw [HPS.out]
              exact HQ.out.trans (by rw [List.append_assoc, List.append_assoc]; exact ⟨d, by simp⟩)
          · obtain rfl : j = x.f3.length := by omega
            have c4b0 : decide ((x.f3.length : Int) < (x.f3.length : Int)) = false := decide_eq_false (by omega)
            have hps : ps = a := by
              have h1 := HH.out
              rw [List.take_length] at ha
              rw [h1] at ha
              exact Option.some.inj ha
            have HPS := Aside0.mk hps
            have HJa := Aside0.mk hJa
            have HBa := Aside0.mk hBa
            clear hps hJa hBa HR ha
            gi_wp2
            go_ret
            exact .inl ⟨rfl, by rw [HPS.out]; exact HJa.out, HBa.out⟩
      · rw [if_neg hlen] at h; cases h
def treeC (x : S31) (A : Option Addr) (c : Nat) : Array Value := #[.int .i64 x.f0, .int .i64 x.f1, .int .i64 x.f2, .slice A x.f3.length c]
theorem panes_any (x : S31) (A : Option Addr) (c : Nat) (w : World) : Calls Try.prog 60 #[treeV x A c] w fun e w' => e = .returned (.func (.func 97) #[] #[.pointer (some ⟨w.heap.size, 0, none⟩)]) ∧ w' = w.alloc (.cells (treeC x A c) 31) := by
  have hu31 := Try.underlying31
  unfold treeV treeC
  go_enter Try.func60, Try.ntmps60
  go_wp2
  go_ret
  exact ⟨rfl, rfl⟩
set_option maxRecDepth 100000 in
set_option maxHeartbeats 4000000 in
theorem panes_stops (k Bt : Nat) (x : S31) (A : Option Addr) (c : Nat) (ps : List Int) (wb w0 : World) (hwb : Below wb.heap.size wb w0) (hp : panesK k x = some ps) (hBt : w0.heap[Bt]? = some (.cells (treeC x A c) 31 (0, 0))) (hC : Kd.C k31 wb A x.f3.length x.f3) :
    SeqStopsK Fence.wide 4 Try.prog 97 #[.pointer (some ⟨Bt, 0, none⟩)] (fun p : Int => #[.int .i64 p]) (Below wb.heap.size) (fun ys => ys = ps) (fun q => q <+: ps) ps.length w0 := by
  intro l J Jx W hW hJ hJx hY h0
  have hu31 := Try.underlying31
  have HE := Aside0.mk (each_in l J Jx wb ps.length (abides_below' hJ) hY k x ps hp A c hC [] W (hwb.trans (hW.mono hwb.size)) h0 (by simp))
  have hb := blk_below hBt hW
  have z0 : W.cell? ⟨Bt, 0, none⟩ = some (.int .i64 x.f0) := (blk_cell hb 0).trans rfl
  have z1 : W.cell? ⟨Bt, 1, none⟩ = some (.int .i64 x.f1) := (blk_cell hb 1).trans rfl
  have z2 : W.cell? ⟨Bt, 2, none⟩ = some (.int .i64 x.f2) := (blk_cell hb 2).trans rfl
  have z3 : W.cell? ⟨Bt, 3, none⟩ = some (.slice A x.f3.length c) := (blk_cell hb 3).trans rfl
  clear hY hb hp
  unfold treeV at HE
  refine callsIn_of_wp Try.func97 rfl trivial ?_ rfl
  simp only [Try.ntmps97, List.size_toArray, List.length_cons, List.length_nil, Nat.reduceAdd, Nat.reduceSub, Array.replicate_succ, Array.replicate_zero, List.push_toArray, List.append_toArray, List.nil_append, List.cons_append]
  gi_wp2
  refine ⟨trivial, ?_⟩
  refine (callsIn_wide.2 (callsIn_wide.1 HE.out)).mono ?_
  rintro e W3 (⟨rfl, hj, _⟩ | ⟨rfl, q, hq, hx⟩)
  · gi_wp2
    go_end0
    exact ⟨⟨_, rfl⟩, .inl ⟨ps, rfl, hj⟩⟩
  · gi_wp2
    go_end0
    exact ⟨⟨_, rfl⟩, .inr ⟨q, hq, hx⟩⟩
end Go.Proofs.Ytplngfammfdemaa
