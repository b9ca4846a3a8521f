-- A copy of the text YthipdgnbpdngpaaDoorGRdF with what this claim does not reach left out (prune.py, a program of this project).
import Derived.Test.YthipdgnbpdngpaaDoorZpGRdE
import Derived.Lib.Hide
namespace Go.Proofs.YthipdgnbpdngpaaDoor
open Go.RowKit Go.Proofs.YthipdgnbpdngpaaDoorW.PrintWords Go.Proofs.YthipdgnbpdngpaaDoorW.PrintLast Go.Proofs.YthipdgnbpdngpaaDoorW.PrintMore S
set_option linter.unusedVariables false
set_option linter.unusedSimpArgs false
def oddB (n : Int) : Bool := !(inB n 0 9999)
set_option maxRecDepth 100000 in
set_option maxHeartbeats 4000000 in
theorem odd_calls (n : Int) (w : World) : Calls Tryd.prog 59 #[.int .i64 n] w fun e w' => e = .returned (.bool (oddB n)) ∧ w = w' := by
  unfold oddB
  go_enter Tryd.func59, Tryd.ntmps59
  go_wp2_with (first | (go_at_call 58; (with_reducible refine (in_calls _ _ _ _).mono ?_); rintro e w1 ⟨rfl, rfl⟩))
  go_ret
  exact ⟨rfl, rfl⟩
def oddIdx : List Int → Nat → Int
  | [], _ => -1
  | x :: l, k => if oddB x = true then (k : Int) else oddIdx l (k + 1)
theorem oddIdx_step (l : List Int) (k : Nat) (h : k < l.length) : oddIdx (l.drop k) k = if oddB (l.getD k 0) = true then (k : Int) else oddIdx (l.drop (k + 1)) (k + 1) := by
  rw [List.drop_eq_getElem_cons h]
  simp [oddIdx, List.getD_eq_getElem?_getD, List.getElem?_eq_getElem h]
theorem oddIdx_any : ∀ (l : List Int) (k : Nat), decide (0 ≤ oddIdx l k) = l.any oddB
  | [], k => by simp [oddIdx]
  | x :: l, k => by
    unfold oddIdx
    by_cases h : oddB x = true
    · rw [if_pos h]; simp [h]
    · rw [if_neg h]; simp [h, oddIdx_any l (k + 1)]
set_option maxRecDepth 100000 in
set_option maxHeartbeats 4000000 in
theorem idx_calls (l : List Int) (A : Option Addr) (c : Nat) (w : World) (hl : l.length < 1000) (hcs : ∀ k, k < l.length → ∃ ad, A = some ad ∧ w.cell? (ad.add k) = some (.int .i64 (l.getD k 0))) :
    Calls Tryd.prog 80 #[.slice A l.length c, .func (.func 59) #[] #[]] w fun e w' => e = .returned (.int .i64 (oddIdx l 0)) ∧ w = w' := by
  have HC := Lib.hid hcs
  clear hcs
  go_enter Tryd.func80, Tryd.ntmps80
  go_wp2
  go_loop [8] (fun i => ∃ k : Nat, k ≤ l.length ∧ i = .int .i64 k ∧ Hid (oddIdx l 0 = oddIdx (l.drop k) k)) (fun i => l.length - (RowKit.intOf i).toNat)
  case atStart => exact ⟨0, Nat.zero_le _, rfl, Lib.hid (by simp)⟩
  case round =>
    obtain ⟨k, hk, rfl, HS⟩ := hrel
    by_cases hlt : k < l.length
    · obtain ⟨ad, rfl, c0⟩ := HC.out k hlt
      have hst := oddIdx_step l k hlt
      have hlz : (k : Int) < (l.length : Int) := by omega
      have cc := fun W => odd_calls (l.getD k 0) W
      generalize l.getD k 0 = x at c0 hst cc
      cases hin : oddB x with
      | true =>
        rw [if_pos hin] at hst
        have HR := Lib.hid (HS.out.trans hst)
        have CC := Lib.hid (cc w)
        simp only [hin] at CC
        clear hin hst cc HS
        go_wp2_with (go_at_call 59; refine CC.out.mono ?_; rintro e w' ⟨rfl, rfl⟩)
        go_ret
        exact ⟨by rw [HR.out]; rfl, rfl⟩
      | false =>
        rw [if_neg (by rw [hin]; exact Bool.false_ne_true)] at hst
        have HR := Lib.hid (HS.out.trans hst)
        have CC := Lib.hid (cc w)
        simp only [hin] at CC
        clear hin hst cc HS
        go_wp2_with (go_at_call 59; refine CC.out.mono ?_; rintro e w' ⟨rfl, rfl⟩)
        go_round
        case rel => exact ⟨k + 1, by omega, by go_num, HR⟩
        case measure => simp [RowKit.intOf]; omega
    · have hkl : k = l.length := by omega
      have HR : Hid (oddIdx l 0 = -1) := Lib.hid (by rw [HS.out, hkl, List.drop_length]; rfl)
      have hge : ¬ ((k : Int) < (l.length : Int)) := by omega
      clear hkl HS
      go_wp2
      go_ret
      exact ⟨by rw [HR.out]; rfl, rfl⟩
set_option maxRecDepth 100000 in
set_option maxHeartbeats 4000000 in
theorem contains_calls (l : List Int) (A : Option Addr) (c : Nat) (w : World) (hl : l.length < 1000) (hcs : ∀ k, k < l.length → ∃ ad, A = some ad ∧ w.cell? (ad.add k) = some (.int .i64 (l.getD k 0))) :
    Calls Tryd.prog 60 #[.slice A l.length c, .func (.func 59) #[] #[]] w fun e w' => e = .returned (.bool (l.any oddB)) ∧ w = w' := by
  have cx := Lib.hid (idx_calls l A c w hl hcs)
  have HD := Lib.hid (oddIdx_any l 0)
  clear hcs
  generalize oddIdx l 0 = q at cx HD
  generalize l.any oddB = b at HD ⊢
  go_enter Tryd.func60, Tryd.ntmps60
  go_wp2_with (go_at_call 80; refine cx.out.mono ?_; rintro e w' ⟨rfl, rfl⟩)
  go_ret
  exact ⟨by rw [← HD.out]; rfl, rfl⟩
theorem contains_V (l : List Int) (A : Option Addr) (c : Nat) (w : World) (hl : l.length < 1000) (h : Kd.C (Kd.int .i64) w A l.length l) :
    Calls Tryd.prog 60 #[.slice A l.length c, .func (.func 59) #[] #[]] w fun e w' => e = .returned (.bool (l.any oddB)) ∧ w = w' :=
  contains_calls l A c w hl (fun k hk => by
    obtain ⟨_, _, hn⟩ := h
    obtain ⟨ad, rfl, hr⟩ := hn (by omega)
    refine ⟨ad, rfl, ?_⟩
    obtain ⟨c', hcl, hK, hcc⟩ := hr k _ (List.getElem?_eq_getElem hk)
    have hK' : c' = [.int .i64 l[k]] := hK
    subst hK'
    have h8 := hcc 0 _ rfl
    have hz : (Kd.int .i64).sz = 1 := rfl
    rw [hz, Nat.mul_one, Nat.add_zero] at h8
    rw [h8, List.getD_eq_getElem?_getD, List.getElem?_eq_getElem hk]
    rfl)
end Go.Proofs.YthipdgnbpdngpaaDoor
