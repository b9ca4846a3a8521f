-- A copy of the text YtplngfammfdemaaGCont with what this claim does not reach left out (prune.py, a program of this project).
import Derived.Test.YtplngfammfdemaaZpPx0
namespace Go.Proofs.Ytplngfammfdemaa
open Go.RowKit Go.Proofs.YtplngfammfdemaaW.PrintWords Go.Proofs.YtplngfammfdemaaW.PrintLast Go.Proofs.YtplngfammfdemaaW.PrintMore P
set_option linter.unusedVariables false
set_option linter.unusedSimpArgs false
theorem at_i64 {w : World} {A : Option Addr} {l : List Int} (h : Kd.C (Kd.int .i64) w A l.length l) (i : Nat) (hi : i < l.length) : ∃ ad, A = some ad ∧ w.cell? (ad.add i) = some (.int .i64 l[i]) := by
  obtain ⟨ad, e, hc⟩ := Kd.at_int h (i : Int) (by omega) (by omega)
  refine ⟨ad, e, ?_⟩
  rw [Int.toNat_natCast] at hc
  rw [hc]
  unfold rd
  rw [Int.toNat_natCast, List.getD_eq_getElem?_getD, List.getElem?_eq_getElem hi]
  rfl
def idxZ (c : Int) (l : List Int) : Int := match l.findIdx? (fun x => c == x) with | some i => (i : Int) | none => -1
theorem idxZ_at {c : Int} {l : List Int} {i : Nat} (hi : i < l.length) (h : ∀ j : Nat, (hj : j < i) → c ≠ l[j]'(by omega)) (hp : c = l[i]) : idxZ c l = i := by
  have : l.findIdx? (fun x => c == x) = some i := by
    rw [List.findIdx?_eq_some_iff_getElem]
    exact ⟨hi, by simp [hp], fun j hj => by simpa using h j hj⟩
  unfold idxZ; rw [this]
theorem idxZ_none {c : Int} {l : List Int} (h : ∀ j : Nat, (hj : j < l.length) → c ≠ l[j]) : idxZ c l = -1 := by
  have : l.findIdx? (fun x => c == x) = none := by
    rw [List.findIdx?_eq_none_iff]
    intro x hx
    obtain ⟨j, hj, rfl⟩ := List.getElem_of_mem hx
    simpa using h j hj
  unfold idxZ; rw [this]
theorem idxZ_mem (c : Int) (l : List Int) : decide (0 ≤ idxZ c l) = decide (c ∈ l) := by
  unfold idxZ
  cases h : l.findIdx? (fun x => c == x) with
  | none =>
    rw [List.findIdx?_eq_none_iff] at h
    simp only [Int.reduceNeg, Int.reduceLE, decide_false]
    symm
    rw [decide_eq_false_iff_not]
    intro hm
    have := h c hm
    simp at this
  | some i =>
    rw [List.findIdx?_eq_some_iff_getElem] at h
    obtain ⟨hi, hp, _⟩ := h
    have e : c = l[i] := by simpa using hp
    rw [show decide (0 ≤ (i : Int)) = true by simp]
    symm
    rw [decide_eq_true_iff, e]
    exact List.getElem_mem hi
set_option maxHeartbeats 4000000 in
set_option maxRecDepth 100000 in
theorem index_any (A : Option Addr) (c0 : Nat) (l : List Int) (c : Int) (w : World) (hC : Kd.C (Kd.int .i64) w A l.length l) (hlen : l.length < 1000000000000000000) (r : Int) (hr : idxZ c l = r) :
    Calls Try.prog 87 #[.slice A l.length c0, .int .i64 c] w fun e w' => e = .returned (.int .i64 r) ∧ w = w' := by
  have HC := Aside0.mk hC
  have HL := Aside0.mk hlen
  clear hC hlen
  go_enter Try.func87, Try.ntmps87
  go_wp2
  go_loopg [5, 8] l.length (fun kq v5 v8 w' => w' = w ∧ ∃ i : Nat, v8 = .int .i64 (i : Int) ∧ Aside0 (i + kq = l.length) ∧ Aside0 (∀ j : Nat, (hj : j < i) → (hl : j < l.length) → c ≠ l[j]))
  case atStart => exact ⟨rfl, 0, rfl, ⟨by omega⟩, ⟨fun j hj => absurd hj (by omega)⟩⟩
  case round =>
    obtain ⟨rfl, i, rfl, HK, HA⟩ := hrel
    have hk := HK.out
    have hl := HL.out
    cases gk with
    | zero =>
      have c4b0 : decide ((i : Int) < (l.length : Int)) = false := decide_eq_false (by omega)
      rw [idxZ_none (c := c) (l := l) (fun j hj => HA.out j (by omega) hj)] at hr
      subst hr
      go_wp2
      go_ret
      exact ⟨rfl, rfl⟩
    | succ k1 =>
      have hil : i < l.length := by omega
      have c4b0 : decide ((i : Int) < (l.length : Int)) = true := decide_eq_true (by omega)
      have p228 : (0 ≤ (i : Int)) = True := eq_true (by omega)
      have q228 : ((i : Int) < (l.length : Int)) = True := eq_true (by omega)
      obtain ⟨ad, rfl, hx⟩ := at_i64 HC.out i hil
      by_cases hc : c = l[i]
      · rw [idxZ_at hil (fun j hj => HA.out j hj (by omega)) hc] at hr
        subst hr
        have hc' : (c == l[i]) = true := beq_iff_eq.2 hc
        generalize l[i] = y at hx hc' hc
        clear hc
        go_wp2
        go_ret
        exact ⟨rfl, rfl⟩
      · have hc' : (c == l[i]) = false := beq_eq_false_iff_ne.2 hc
        have HN := Aside0.mk hc
        have HA1 : Aside0 (∀ j : Nat, (hj : j < i + 1) → (hl : j < l.length) → c ≠ l[j]) := ⟨fun j hj hl => by
          by_cases e : j = i
          · subst e; exact hc
          · exact HA.out j (by omega) hl⟩
        generalize l[i] = y at hx hc' hc HN
        clear hc
        go_wp2
        go_roundg k1
        case measure => omega
        case rel => exact ⟨rfl, i + 1, by first | rfl | (congr 1; first | omega | (unfold wrap64; omega)), ⟨by omega⟩, HA1⟩
set_option maxHeartbeats 4000000 in
set_option maxRecDepth 100000 in
theorem contains_any (A : Option Addr) (c0 : Nat) (l : List Int) (c : Int) (w : World) (hC : Kd.C (Kd.int .i64) w A l.length l) (hlen : l.length < 1000000000000000000) :
    Calls Try.prog 51 #[.slice A l.length c0, .int .i64 c] w fun e w' => e = .returned (.bool (decide (c ∈ l))) ∧ w = w' := by
  have HI := Aside0.mk (index_any A c0 l c w hC hlen _ rfl)
  rw [← idxZ_mem]
  generalize idxZ c l = z at HI ⊢
  clear hC hlen
  go_enter Try.func51, Try.ntmps51
  go_wp2_with (go_at_call 87; refine HI.out.mono ?_; rintro e w1 ⟨rfl, rfl⟩)
  go_ret
  exact ⟨rfl, rfl⟩
end Go.Proofs.Ytplngfammfdemaa
