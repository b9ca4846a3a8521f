-- A copy of the text YthipdgnbpdngpaaDoorGFull with what this claim does not reach left out (prune.py, a program of this project).
import Derived.Test.YthipdgnbpdngpaaDoorZpShelf
import Derived.Test.YthipdgnbpdngpaaDoorZpPx0
import Derived.WalkKit
import Derived.Deep.QuietTactic
import Derived.BigQuiet
namespace Go.Proofs.YthipdgnbpdngpaaDoor
open Go.RowKit Go.Lib Go.Proofs.YthipdgnbpdngpaaDoorW.PrintWords Go.Proofs.YthipdgnbpdngpaaDoorW.PrintLast
/-- The two tables of unicode/utf8 lie as their texts lay them. -/
def TabsAt (w : World) : Prop := Lib.Utf8Tabs 0 1 w
theorem tabs_here {w W : World} (h : TabsAt w) (hb : Below w.heap.size w W) : TabsAt W := by
  have h1 := h.1
  have h2 := h.2
  have c0 : (0 : Nat) < w.heap.size := by
    have := h1 0 (by omega)
    exact World.block_lt_of_cell? w ⟨0, 0, none⟩ this
  have c1 : (1 : Nat) < w.heap.size := by
    have := (h2 0 (by omega)).1
    exact World.block_lt_of_cell? w ⟨1, 0, none⟩ this
  refine ⟨fun c hc => ?_, fun i hi => ⟨?_, ?_⟩⟩
  · exact (hb.cell (p := ⟨0, c, none⟩) c0).trans (h1 c hc)
  · exact (hb.cell (p := ⟨1, 2 * i, none⟩) c1).trans (h2 i hi).1
  · exact (hb.cell (p := ⟨1, 2 * i + 1, none⟩) c1).trans (h2 i hi).2
/-- What FullRuneInString answers of a string of n bytes that begins b0 b1 b2. -/
def fullN (n b0 b1 b2 : Nat) : Bool :=
  decide (0 < n ∧ (firstT b0 % 8 ≤ n ∨ (1 < n ∧ (b1 < accLo (firstT b0 / 16) ∨ accHi (firstT b0 / 16) < b1)) ∨ (2 < n ∧ (b2 < 128 ∨ 191 < b2))))
def fullB (s : ByteArray) : Bool := fullN s.size (s.get! 0).toNat (s.get! 1).toNat (s.get! 2).toNat
set_option maxHeartbeats 4000000 in
set_option maxRecDepth 100000 in
theorem full_any (s : ByteArray) (w : World) (hT : TabsAt w) :
    Calls Tryd.prog 40 #[.string s] w fun e w' => e = .returned (.bool (fullB s)) ∧ Below w.heap.size w w' := by
  unfold fullB
  by_cases h0 : s.size = 0
  · have hz : fullN s.size (s.get! 0).toNat (s.get! 1).toNat (s.get! 2).toNat = false := by simp [fullN, h0]
    rw [hz]
    have hzz : ((s.size : Int) == 0) = true := by simpa using h0
    clear hz
    go_enter Tryd.func40, Tryd.ntmps40
    go_wp2
    go_ret
    exact ⟨rfl, Below.refl _ _⟩
  · have hne : ((s.size : Int) == 0) = false := by simpa using h0
    have hz0 : (0 : Int) < (s.size : Int) := by omega
    obtain ⟨x0, hx0⟩ : ∃ x0, s.get! 0 = x0 := ⟨_, rfl⟩
    obtain ⟨x1, hx1⟩ : ∃ x1, s.get! 1 = x1 := ⟨_, rfl⟩
    obtain ⟨x2, hx2⟩ : ∃ x2, s.get! 2 = x2 := ⟨_, rfl⟩
    rw [hx0, hx1, hx2]
    have hs0 : s[0]'(by omega) = x0 := by rw [← hx0]; exact (Utf8W.get!_of_lt s 0 (by omega)).symm
    have l0 := x0.toNat_lt; have l1 := x1.toNat_lt; have l2 := x2.toNat_lt
    have hc0 := hT.1 x0.toNat (by omega)
    rcases Lib.firstT_cases x0.toNat with hX | hX | hX | hX | hX | hX | hX | hX | hX
    · rw [hX] at hc0
      have hr : fullN s.size x0.toNat x1.toNat x2.toNat = true := by simp [fullN, hX]; omega
      rw [hr]
      clear hr hX hT
      go_enter Tryd.func40, Tryd.ntmps40
      go_wp2
      go_ret
      exact ⟨rfl, Below.refl _ _⟩
    · rw [hX] at hc0
      have hr : fullN s.size x0.toNat x1.toNat x2.toNat = true := by simp [fullN, hX]; omega
      rw [hr]
      clear hr hX hT
      have hz1 : (s.size : Int) ≥ 1 := by omega
      go_enter Tryd.func40, Tryd.ntmps40
      go_wp2
      go_ret
      exact ⟨rfl, Below.refl _ _⟩
    · rw [hX] at hc0
      have ha0 := (hT.2 0 (by omega)).1
      have ha1 := (hT.2 0 (by omega)).2
      simp only [accLo, accHi, Nat.reduceMul, Nat.reduceAdd, Nat.reduceEqDiff, if_true, if_false] at ha0 ha1
      by_cases hn : 2 ≤ s.size
      · have hr : fullN s.size x0.toNat x1.toNat x2.toNat = true := by simp [fullN, hX, accLo, accHi]; omega
        rw [hr]
        have d1 : decide ((s.size : Int) ≥ 2) = true := by simp; omega
        clear hr hX hT
        go_enter Tryd.func40, Tryd.ntmps40
        go_wp2
        go_ret
        exact ⟨rfl, Below.refl _ _⟩
      by_cases h1 : s.size = 1
      · have hr : fullN s.size x0.toNat x1.toNat x2.toNat = false := by simp [fullN, hX, accLo, accHi]; omega
        rw [hr]
        have d1 : decide ((s.size : Int) ≥ 2) = false := by simp; omega
        have d2 : decide ((s.size : Int) > 1) = false := by simp; omega
        have d3 : decide ((s.size : Int) > 2) = false := by simp; omega
        clear hr hX hT
        go_enter Tryd.func40, Tryd.ntmps40
        go_wp2
        go_quiet (fail)
        go_wp2
        go_ret
        exact ⟨rfl, pw_below_drewN (Below.alloc (Below.refl _ _) (Nat.le_refl _) _) _⟩
      exfalso; omega
    · rw [hX] at hc0
      have ha0 := (hT.2 1 (by omega)).1
      have ha1 := (hT.2 1 (by omega)).2
      simp only [accLo, accHi, Nat.reduceMul, Nat.reduceAdd, Nat.reduceEqDiff, if_true, if_false] at ha0 ha1
      by_cases hn : 3 ≤ s.size
      · have hr : fullN s.size x0.toNat x1.toNat x2.toNat = true := by simp [fullN, hX, accLo, accHi]; omega
        rw [hr]
        have d1 : decide ((s.size : Int) ≥ 3) = true := by simp; omega
        clear hr hX hT
        go_enter Tryd.func40, Tryd.ntmps40
        go_wp2
        go_ret
        exact ⟨rfl, Below.refl _ _⟩
      by_cases h1 : s.size = 1
      · have hr : fullN s.size x0.toNat x1.toNat x2.toNat = false := by simp [fullN, hX, accLo, accHi]; omega
        rw [hr]
        have d1 : decide ((s.size : Int) ≥ 3) = false := by simp; omega
        have d2 : decide ((s.size : Int) > 1) = false := by simp; omega
        have d3 : decide ((s.size : Int) > 2) = false := by simp; omega
        clear hr hX hT
        go_enter Tryd.func40, Tryd.ntmps40
        go_wp2
        go_quiet (fail)
        go_wp2
        go_ret
        exact ⟨rfl, pw_below_drewN (Below.alloc (Below.refl _ _) (Nat.le_refl _) _) _⟩
      have hz1 : (1 : Int) < (s.size : Int) := by omega
      have hs1 : s[1]'(by omega) = x1 := by rw [← hx1]; exact (Utf8W.get!_of_lt s 1 (by omega)).symm
      by_cases b1 : x1.toNat < 160
      · have hr : fullN s.size x0.toNat x1.toNat x2.toNat = true := by simp [fullN, hX, accLo, accHi]; omega
        rw [hr]
        have d1 : decide ((s.size : Int) ≥ 3) = false := by simp; omega
        have d2 : decide ((s.size : Int) > 1) = true := by simp; omega
        have e1 : decide ((x1.toNat : Int) < 160) = true := by simp; omega
        clear hr hX hT
        go_enter Tryd.func40, Tryd.ntmps40
        go_wp2
        go_quiet (fail)
        go_wp2
        go_ret
        exact ⟨rfl, pw_below_drewN (Below.alloc (Below.refl _ _) (Nat.le_refl _) _) _⟩
      by_cases b2 : 191 < x1.toNat
      · have hr : fullN s.size x0.toNat x1.toNat x2.toNat = true := by simp [fullN, hX, accLo, accHi]; omega
        rw [hr]
        have d1 : decide ((s.size : Int) ≥ 3) = false := by simp; omega
        have d2 : decide ((s.size : Int) > 1) = true := by simp; omega
        have e1 : decide ((x1.toNat : Int) < 160) = false := by simp; omega
        have e2 : decide (191 < (x1.toNat : Int)) = true := by simp; omega
        clear hr hX hT
        go_enter Tryd.func40, Tryd.ntmps40
        go_wp2
        go_quiet (fail)
        go_wp2
        go_ret
        exact ⟨rfl, pw_below_drewN (Below.alloc (Below.refl _ _) (Nat.le_refl _) _) _⟩
      have hr : fullN s.size x0.toNat x1.toNat x2.toNat = false := by simp [fullN, hX, accLo, accHi]; omega
      rw [hr]
      have d1 : decide ((s.size : Int) ≥ 3) = false := by simp; omega
      have d2 : decide ((s.size : Int) > 1) = true := by simp; omega
      have e1 : decide ((x1.toNat : Int) < 160) = false := by simp; omega
      have e2 : decide (191 < (x1.toNat : Int)) = false := by simp; omega
      have d3 : decide ((s.size : Int) > 2) = false := by simp; omega
      clear hr hX hT
      go_enter Tryd.func40, Tryd.ntmps40
      go_wp2
      go_quiet (fail)
      go_wp2
      go_ret
      exact ⟨rfl, pw_below_drewN (Below.alloc (Below.refl _ _) (Nat.le_refl _) _) _⟩
    · rw [hX] at hc0
      have ha0 := (hT.2 0 (by omega)).1
      have ha1 := (hT.2 0 (by omega)).2
      simp only [accLo, accHi, Nat.reduceMul, Nat.reduceAdd, Nat.reduceEqDiff, if_true, if_false] at ha0 ha1
      by_cases hn : 3 ≤ s.size
      · have hr : fullN s.size x0.toNat x1.toNat x2.toNat = true := by simp [fullN, hX, accLo, accHi]; omega
        rw [hr]
        have d1 : decide ((s.size : Int) ≥ 3) = true := by simp; omega
        clear hr hX hT
        go_enter Tryd.func40, Tryd.ntmps40
        go_wp2
        go_ret
        exact ⟨rfl, Below.refl _ _⟩
      by_cases h1 : s.size = 1
      · have hr : fullN s.size x0.toNat x1.toNat x2.toNat = false := by simp [fullN, hX, accLo, accHi]; omega
        rw [hr]
        have d1 : decide ((s.size : Int) ≥ 3) = false := by simp; omega
        have d2 : decide ((s.size : Int) > 1) = false := by simp; omega
        have d3 : decide ((s.size : Int) > 2) = false := by simp; omega
        clear hr hX hT
        go_enter Tryd.func40, Tryd.ntmps40
        go_wp2
        go_quiet (fail)
        go_wp2
        go_ret
        exact ⟨rfl, pw_below_drewN (Below.alloc (Below.refl _ _) (Nat.le_refl _) _) _⟩
      have hz1 : (1 : Int) < (s.size : Int) := by omega
      have hs1 : s[1]'(by omega) = x1 := by rw [← hx1]; exact (Utf8W.get!_of_lt s 1 (by omega)).symm
      by_cases b1 : x1.toNat < 128
      · have hr : fullN s.size x0.toNat x1.toNat x2.toNat = true := by simp [fullN, hX, accLo, accHi]; omega
        rw [hr]
        have d1 : decide ((s.size : Int) ≥ 3) = false := by simp; omega
        have d2 : decide ((s.size : Int) > 1) = true := by simp; omega
        have e1 : decide ((x1.toNat : Int) < 128) = true := by simp; omega
        clear hr hX hT
        go_enter Tryd.func40, Tryd.ntmps40
        go_wp2
        go_quiet (fail)
        go_wp2
        go_ret
        exact ⟨rfl, pw_below_drewN (Below.alloc (Below.refl _ _) (Nat.le_refl _) _) _⟩
      by_cases b2 : 191 < x1.toNat
      · have hr : fullN s.size x0.toNat x1.toNat x2.toNat = true := by simp [fullN, hX, accLo, accHi]; omega
        rw [hr]
        have d1 : decide ((s.size : Int) ≥ 3) = false := by simp; omega
        have d2 : decide ((s.size : Int) > 1) = true := by simp; omega
        have e1 : decide ((x1.toNat : Int) < 128) = false := by simp; omega
        have e2 : decide (191 < (x1.toNat : Int)) = true := by simp; omega
        clear hr hX hT
        go_enter Tryd.func40, Tryd.ntmps40
        go_wp2
        go_quiet (fail)
        go_wp2
        go_ret
        exact ⟨rfl, pw_below_drewN (Below.alloc (Below.refl _ _) (Nat.le_refl _) _) _⟩
      have hr : fullN s.size x0.toNat x1.toNat x2.toNat = false := by simp [fullN, hX, accLo, accHi]; omega
      rw [hr]
      have d1 : decide ((s.size : Int) ≥ 3) = false := by simp; omega
      have d2 : decide ((s.size : Int) > 1) = true := by simp; omega
      have e1 : decide ((x1.toNat : Int) < 128) = false := by simp; omega
      have e2 : decide (191 < (x1.toNat : Int)) = false := by simp; omega
      have d3 : decide ((s.size : Int) > 2) = false := by simp; omega
      clear hr hX hT
      go_enter Tryd.func40, Tryd.ntmps40
      go_wp2
      go_quiet (fail)
      go_wp2
      go_ret
      exact ⟨rfl, pw_below_drewN (Below.alloc (Below.refl _ _) (Nat.le_refl _) _) _⟩
    · rw [hX] at hc0
      have ha0 := (hT.2 2 (by omega)).1
      have ha1 := (hT.2 2 (by omega)).2
      simp only [accLo, accHi, Nat.reduceMul, Nat.reduceAdd, Nat.reduceEqDiff, if_true, if_false] at ha0 ha1
      by_cases hn : 3 ≤ s.size
      · have hr : fullN s.size x0.toNat x1.toNat x2.toNat = true := by simp [fullN, hX, accLo, accHi]; omega
        rw [hr]
        have d1 : decide ((s.size : Int) ≥ 3) = true := by simp; omega
        clear hr hX hT
        go_enter Tryd.func40, Tryd.ntmps40
        go_wp2
        go_ret
        exact ⟨rfl, Below.refl _ _⟩
      by_cases h1 : s.size = 1
      · have hr : fullN s.size x0.toNat x1.toNat x2.toNat = false := by simp [fullN, hX, accLo, accHi]; omega
        rw [hr]
        have d1 : decide ((s.size : Int) ≥ 3) = false := by simp; omega
        have d2 : decide ((s.size : Int) > 1) = false := by simp; omega
        have d3 : decide ((s.size : Int) > 2) = false := by simp; omega
        clear hr hX hT
        go_enter Tryd.func40, Tryd.ntmps40
        go_wp2
        go_quiet (fail)
        go_wp2
        go_ret
        exact ⟨rfl, pw_below_drewN (Below.alloc (Below.refl _ _) (Nat.le_refl _) _) _⟩
      have hz1 : (1 : Int) < (s.size : Int) := by omega
      have hs1 : s[1]'(by omega) = x1 := by rw [← hx1]; exact (Utf8W.get!_of_lt s 1 (by omega)).symm
      by_cases b1 : x1.toNat < 128
      · have hr : fullN s.size x0.toNat x1.toNat x2.toNat = true := by simp [fullN, hX, accLo, accHi]; omega
        rw [hr]
        have d1 : decide ((s.size : Int) ≥ 3) = false := by simp; omega
        have d2 : decide ((s.size : Int) > 1) = true := by simp; omega
        have e1 : decide ((x1.toNat : Int) < 128) = true := by simp; omega
        clear hr hX hT
        go_enter Tryd.func40, Tryd.ntmps40
        go_wp2
        go_quiet (fail)
        go_wp2
        go_ret
        exact ⟨rfl, pw_below_drewN (Below.alloc (Below.refl _ _) (Nat.le_refl _) _) _⟩
      by_cases b2 : 159 < x1.toNat
      · have hr : fullN s.size x0.toNat x1.toNat x2.toNat = true := by simp [fullN, hX, accLo, accHi]; omega
        rw [hr]
        have d1 : decide ((s.size : Int) ≥ 3) = false := by simp; omega
        have d2 : decide ((s.size : Int) > 1) = true := by simp; omega
        have e1 : decide ((x1.toNat : Int) < 128) = false := by simp; omega
        have e2 : decide (159 < (x1.toNat : Int)) = true := by simp; omega
        clear hr hX hT
        go_enter Tryd.func40, Tryd.ntmps40
        go_wp2
        go_quiet (fail)
        go_wp2
        go_ret
        exact ⟨rfl, pw_below_drewN (Below.alloc (Below.refl _ _) (Nat.le_refl _) _) _⟩
      have hr : fullN s.size x0.toNat x1.toNat x2.toNat = false := by simp [fullN, hX, accLo, accHi]; omega
      rw [hr]
      have d1 : decide ((s.size : Int) ≥ 3) = false := by simp; omega
      have d2 : decide ((s.size : Int) > 1) = true := by simp; omega
      have e1 : decide ((x1.toNat : Int) < 128) = false := by simp; omega
      have e2 : decide (159 < (x1.toNat : Int)) = false := by simp; omega
      have d3 : decide ((s.size : Int) > 2) = false := by simp; omega
      clear hr hX hT
      go_enter Tryd.func40, Tryd.ntmps40
      go_wp2
      go_quiet (fail)
      go_wp2
      go_ret
      exact ⟨rfl, pw_below_drewN (Below.alloc (Below.refl _ _) (Nat.le_refl _) _) _⟩
    · rw [hX] at hc0
      have ha0 := (hT.2 3 (by omega)).1
      have ha1 := (hT.2 3 (by omega)).2
      simp only [accLo, accHi, Nat.reduceMul, Nat.reduceAdd, Nat.reduceEqDiff, if_true, if_false] at ha0 ha1
      by_cases hn : 4 ≤ s.size
      · have hr : fullN s.size x0.toNat x1.toNat x2.toNat = true := by simp [fullN, hX, accLo, accHi]; omega
        rw [hr]
        have d1 : decide ((s.size : Int) ≥ 4) = true := by simp; omega
        clear hr hX hT
        go_enter Tryd.func40, Tryd.ntmps40
        go_wp2
        go_ret
        exact ⟨rfl, Below.refl _ _⟩
      by_cases h1 : s.size = 1
      · have hr : fullN s.size x0.toNat x1.toNat x2.toNat = false := by simp [fullN, hX, accLo, accHi]; omega
        rw [hr]
        have d1 : decide ((s.size : Int) ≥ 4) = false := by simp; omega
        have d2 : decide ((s.size : Int) > 1) = false := by simp; omega
        have d3 : decide ((s.size : Int) > 2) = false := by simp; omega
        clear hr hX hT
        go_enter Tryd.func40, Tryd.ntmps40
        go_wp2
        go_quiet (fail)
        go_wp2
        go_ret
        exact ⟨rfl, pw_below_drewN (Below.alloc (Below.refl _ _) (Nat.le_refl _) _) _⟩
      have hz1 : (1 : Int) < (s.size : Int) := by omega
      have hs1 : s[1]'(by omega) = x1 := by rw [← hx1]; exact (Utf8W.get!_of_lt s 1 (by omega)).symm
      by_cases b1 : x1.toNat < 144
      · have hr : fullN s.size x0.toNat x1.toNat x2.toNat = true := by simp [fullN, hX, accLo, accHi]; omega
        rw [hr]
        have d1 : decide ((s.size : Int) ≥ 4) = false := by simp; omega
        have d2 : decide ((s.size : Int) > 1) = true := by simp; omega
        have e1 : decide ((x1.toNat : Int) < 144) = true := by simp; omega
        clear hr hX hT
        go_enter Tryd.func40, Tryd.ntmps40
        go_wp2
        go_quiet (fail)
        go_wp2
        go_ret
        exact ⟨rfl, pw_below_drewN (Below.alloc (Below.refl _ _) (Nat.le_refl _) _) _⟩
      by_cases b2 : 191 < x1.toNat
      · have hr : fullN s.size x0.toNat x1.toNat x2.toNat = true := by simp [fullN, hX, accLo, accHi]; omega
        rw [hr]
        have d1 : decide ((s.size : Int) ≥ 4) = false := by simp; omega
        have d2 : decide ((s.size : Int) > 1) = true := by simp; omega
        have e1 : decide ((x1.toNat : Int) < 144) = false := by simp; omega
        have e2 : decide (191 < (x1.toNat : Int)) = true := by simp; omega
        clear hr hX hT
        go_enter Tryd.func40, Tryd.ntmps40
        go_wp2
        go_quiet (fail)
        go_wp2
        go_ret
        exact ⟨rfl, pw_below_drewN (Below.alloc (Below.refl _ _) (Nat.le_refl _) _) _⟩
      by_cases h2 : s.size = 2
      · have hr : fullN s.size x0.toNat x1.toNat x2.toNat = false := by simp [fullN, hX, accLo, accHi]; omega
        rw [hr]
        have d1 : decide ((s.size : Int) ≥ 4) = false := by simp; omega
        have d2 : decide ((s.size : Int) > 1) = true := by simp; omega
        have e1 : decide ((x1.toNat : Int) < 144) = false := by simp; omega
        have e2 : decide (191 < (x1.toNat : Int)) = false := by simp; omega
        have d3 : decide ((s.size : Int) > 2) = false := by simp; omega
        clear hr hX hT
        go_enter Tryd.func40, Tryd.ntmps40
        go_wp2
        go_quiet (fail)
        go_wp2
        go_ret
        exact ⟨rfl, pw_below_drewN (Below.alloc (Below.refl _ _) (Nat.le_refl _) _) _⟩
      have hz2 : (2 : Int) < (s.size : Int) := by omega
      have hs2 : s[2]'(by omega) = x2 := by rw [← hx2]; exact (Utf8W.get!_of_lt s 2 (by omega)).symm
      by_cases c1 : x2.toNat < 128
      · have hr : fullN s.size x0.toNat x1.toNat x2.toNat = true := by simp [fullN, hX, accLo, accHi]; omega
        rw [hr]
        have d1 : decide ((s.size : Int) ≥ 4) = false := by simp; omega
        have d2 : decide ((s.size : Int) > 1) = true := by simp; omega
        have e1 : decide ((x1.toNat : Int) < 144) = false := by simp; omega
        have e2 : decide (191 < (x1.toNat : Int)) = false := by simp; omega
        have d3 : decide ((s.size : Int) > 2) = true := by simp; omega
        have g1 : decide ((x2.toNat : Int) < 128) = true := by simp; omega
        clear hr hX hT
        go_enter Tryd.func40, Tryd.ntmps40
        go_wp2
        go_quiet (fail)
        go_wp2
        go_ret
        exact ⟨rfl, pw_below_drewN (Below.alloc (Below.refl _ _) (Nat.le_refl _) _) _⟩
      by_cases c2 : 191 < x2.toNat
      · have hr : fullN s.size x0.toNat x1.toNat x2.toNat = true := by simp [fullN, hX, accLo, accHi]; omega
        rw [hr]
        have d1 : decide ((s.size : Int) ≥ 4) = false := by simp; omega
        have d2 : decide ((s.size : Int) > 1) = true := by simp; omega
        have e1 : decide ((x1.toNat : Int) < 144) = false := by simp; omega
        have e2 : decide (191 < (x1.toNat : Int)) = false := by simp; omega
        have d3 : decide ((s.size : Int) > 2) = true := by simp; omega
        have g1 : decide ((x2.toNat : Int) < 128) = false := by simp; omega
        have g2 : decide (191 < (x2.toNat : Int)) = true := by simp; omega
        clear hr hX hT
        go_enter Tryd.func40, Tryd.ntmps40
        go_wp2
        go_quiet (fail)
        go_wp2
        go_ret
        exact ⟨rfl, pw_below_drewN (Below.alloc (Below.refl _ _) (Nat.le_refl _) _) _⟩
      have hr : fullN s.size x0.toNat x1.toNat x2.toNat = false := by simp [fullN, hX, accLo, accHi]; omega
      rw [hr]
      have d1 : decide ((s.size : Int) ≥ 4) = false := by simp; omega
      have d2 : decide ((s.size : Int) > 1) = true := by simp; omega
      have e1 : decide ((x1.toNat : Int) < 144) = false := by simp; omega
      have e2 : decide (191 < (x1.toNat : Int)) = false := by simp; omega
      have d3 : decide ((s.size : Int) > 2) = true := by simp; omega
      have g1 : decide ((x2.toNat : Int) < 128) = false := by simp; omega
      have g2 : decide (191 < (x2.toNat : Int)) = false := by simp; omega
      clear hr hX hT
      go_enter Tryd.func40, Tryd.ntmps40
      go_wp2
      go_quiet (fail)
      go_wp2
      go_ret
      exact ⟨rfl, pw_below_drewN (Below.alloc (Below.refl _ _) (Nat.le_refl _) _) _⟩
    · rw [hX] at hc0
      have ha0 := (hT.2 0 (by omega)).1
      have ha1 := (hT.2 0 (by omega)).2
      simp only [accLo, accHi, Nat.reduceMul, Nat.reduceAdd, Nat.reduceEqDiff, if_true, if_false] at ha0 ha1
      by_cases hn : 4 ≤ s.size
      · have hr : fullN s.size x0.toNat x1.toNat x2.toNat = true := by simp [fullN, hX, accLo, accHi]; omega
        rw [hr]
        have d1 : decide ((s.size : Int) ≥ 4) = true := by simp; omega
        clear hr hX hT
        go_enter Tryd.func40, Tryd.ntmps40
        go_wp2
        go_ret
        exact ⟨rfl, Below.refl _ _⟩
      by_cases h1 : s.size = 1
      · have hr : fullN s.size x0.toNat x1.toNat x2.toNat = false := by simp [fullN, hX, accLo, accHi]; omega
        rw [hr]
        have d1 : decide ((s.size : Int) ≥ 4) = false := by simp; omega
        have d2 : decide ((s.size : Int) > 1) = false := by simp; omega
        have d3 : decide ((s.size : Int) > 2) = false := by simp; omega
        clear hr hX hT
        go_enter Tryd.func40, Tryd.ntmps40
        go_wp2
        go_quiet (fail)
        go_wp2
        go_ret
        exact ⟨rfl, pw_below_drewN (Below.alloc (Below.refl _ _) (Nat.le_refl _) _) _⟩
      have hz1 : (1 : Int) < (s.size : Int) := by omega
      have hs1 : s[1]'(by omega) = x1 := by rw [← hx1]; exact (Utf8W.get!_of_lt s 1 (by omega)).symm
      by_cases b1 : x1.toNat < 128
      · have hr : fullN s.size x0.toNat x1.toNat x2.toNat = true := by simp [fullN, hX, accLo, accHi]; omega
        rw [hr]
        have d1 : decide ((s.size : Int) ≥ 4) = false := by simp; omega
        have d2 : decide ((s.size : Int) > 1) = true := by simp; omega
        have e1 : decide ((x1.toNat : Int) < 128) = true := by simp; omega
        clear hr hX hT
        go_enter Tryd.func40, Tryd.ntmps40
        go_wp2
        go_quiet (fail)
        go_wp2
        go_ret
        exact ⟨rfl, pw_below_drewN (Below.alloc (Below.refl _ _) (Nat.le_refl _) _) _⟩
      by_cases b2 : 191 < x1.toNat
      · have hr : fullN s.size x0.toNat x1.toNat x2.toNat = true := by simp [fullN, hX, accLo, accHi]; omega
        rw [hr]
        have d1 : decide ((s.size : Int) ≥ 4) = false := by simp; omega
        have d2 : decide ((s.size : Int) > 1) = true := by simp; omega
        have e1 : decide ((x1.toNat : Int) < 128) = false := by simp; omega
        have e2 : decide (191 < (x1.toNat : Int)) = true := by simp; omega
        clear hr hX hT
        go_enter Tryd.func40, Tryd.ntmps40
        go_wp2
        go_quiet (fail)
        go_wp2
        go_ret
        exact ⟨rfl, pw_below_drewN (Below.alloc (Below.refl _ _) (Nat.le_refl _) _) _⟩
      by_cases h2 : s.size = 2
      · have hr : fullN s.size x0.toNat x1.toNat x2.toNat = false := by simp [fullN, hX, accLo, accHi]; omega
        rw [hr]
        have d1 : decide ((s.size : Int) ≥ 4) = false := by simp; omega
        have d2 : decide ((s.size : Int) > 1) = true := by simp; omega
        have e1 : decide ((x1.toNat : Int) < 128) = false := by simp; omega
        have e2 : decide (191 < (x1.toNat : Int)) = false := by simp; omega
        have d3 : decide ((s.size : Int) > 2) = false := by simp; omega
        clear hr hX hT
        go_enter Tryd.func40, Tryd.ntmps40
        go_wp2
        go_quiet (fail)
        go_wp2
        go_ret
        exact ⟨rfl, pw_below_drewN (Below.alloc (Below.refl _ _) (Nat.le_refl _) _) _⟩
      have hz2 : (2 : Int) < (s.size : Int) := by omega
      have hs2 : s[2]'(by omega) = x2 := by rw [← hx2]; exact (Utf8W.get!_of_lt s 2 (by omega)).symm
      by_cases c1 : x2.toNat < 128
      · have hr : fullN s.size x0.toNat x1.toNat x2.toNat = true := by simp [fullN, hX, accLo, accHi]; omega
        rw [hr]
        have d1 : decide ((s.size : Int) ≥ 4) = false := by simp; omega
        have d2 : decide ((s.size : Int) > 1) = true := by simp; omega
        have e1 : decide ((x1.toNat : Int) < 128) = false := by simp; omega
        have e2 : decide (191 < (x1.toNat : Int)) = false := by simp; omega
        have d3 : decide ((s.size : Int) > 2) = true := by simp; omega
        have g1 : decide ((x2.toNat : Int) < 128) = true := by simp; omega
        clear hr hX hT
        go_enter Tryd.func40, Tryd.ntmps40
        go_wp2
        go_quiet (fail)
        go_wp2
        go_ret
        exact ⟨rfl, pw_below_drewN (Below.alloc (Below.refl _ _) (Nat.le_refl _) _) _⟩
      by_cases c2 : 191 < x2.toNat
      · have hr : fullN s.size x0.toNat x1.toNat x2.toNat = true := by simp [fullN, hX, accLo, accHi]; omega
        rw [hr]
        have d1 : decide ((s.size : Int) ≥ 4) = false := by simp; omega
        have d2 : decide ((s.size : Int) > 1) = true := by simp; omega
        have e1 : decide ((x1.toNat : Int) < 128) = false := by simp; omega
        have e2 : decide (191 < (x1.toNat : Int)) = false := by simp; omega
        have d3 : decide ((s.size : Int) > 2) = true := by simp; omega
        have g1 : decide ((x2.toNat : Int) < 128) = false := by simp; omega
        have g2 : decide (191 < (x2.toNat : Int)) = true := by simp; omega
        clear hr hX hT
        go_enter Tryd.func40, Tryd.ntmps40
        go_wp2
        go_quiet (fail)
        go_wp2
        go_ret
        exact ⟨rfl, pw_below_drewN (Below.alloc (Below.refl _ _) (Nat.le_refl _) _) _⟩
      have hr : fullN s.size x0.toNat x1.toNat x2.toNat = false := by simp [fullN, hX, accLo, accHi]; omega
      rw [hr]
      have d1 : decide ((s.size : Int) ≥ 4) = false := by simp; omega
      have d2 : decide ((s.size : Int) > 1) = true := by simp; omega
      have e1 : decide ((x1.toNat : Int) < 128) = false := by simp; omega
      have e2 : decide (191 < (x1.toNat : Int)) = false := by simp; omega
      have d3 : decide ((s.size : Int) > 2) = true := by simp; omega
      have g1 : decide ((x2.toNat : Int) < 128) = false := by simp; omega
      have g2 : decide (191 < (x2.toNat : Int)) = false := by simp; omega
      clear hr hX hT
      go_enter Tryd.func40, Tryd.ntmps40
      go_wp2
      go_quiet (fail)
      go_wp2
      go_ret
      exact ⟨rfl, pw_below_drewN (Below.alloc (Below.refl _ _) (Nat.le_refl _) _) _⟩
    · rw [hX] at hc0
      have ha0 := (hT.2 4 (by omega)).1
      have ha1 := (hT.2 4 (by omega)).2
      simp only [accLo, accHi, Nat.reduceMul, Nat.reduceAdd, Nat.reduceEqDiff, if_true, if_false] at ha0 ha1
      by_cases hn : 4 ≤ s.size
      · have hr : fullN s.size x0.toNat x1.toNat x2.toNat = true := by simp [fullN, hX, accLo, accHi]; omega
        rw [hr]
        have d1 : decide ((s.size : Int) ≥ 4) = true := by simp; omega
        clear hr hX hT
        go_enter Tryd.func40, Tryd.ntmps40
        go_wp2
        go_ret
        exact ⟨rfl, Below.refl _ _⟩
      by_cases h1 : s.size = 1
      · have hr : fullN s.size x0.toNat x1.toNat x2.toNat = false := by simp [fullN, hX, accLo, accHi]; omega
        rw [hr]
        have d1 : decide ((s.size : Int) ≥ 4) = false := by simp; omega
        have d2 : decide ((s.size : Int) > 1) = false := by simp; omega
        have d3 : decide ((s.size : Int) > 2) = false := by simp; omega
        clear hr hX hT
        go_enter Tryd.func40, Tryd.ntmps40
        go_wp2
        go_quiet (fail)
        go_wp2
        go_ret
        exact ⟨rfl, pw_below_drewN (Below.alloc (Below.refl _ _) (Nat.le_refl _) _) _⟩
      have hz1 : (1 : Int) < (s.size : Int) := by omega
      have hs1 : s[1]'(by omega) = x1 := by rw [← hx1]; exact (Utf8W.get!_of_lt s 1 (by omega)).symm
      by_cases b1 : x1.toNat < 128
      · have hr : fullN s.size x0.toNat x1.toNat x2.toNat = true := by simp [fullN, hX, accLo, accHi]; omega
        rw [hr]
        have d1 : decide ((s.size : Int) ≥ 4) = false := by simp; omega
        have d2 : decide ((s.size : Int) > 1) = true := by simp; omega
        have e1 : decide ((x1.toNat : Int) < 128) = true := by simp; omega
        clear hr hX hT
        go_enter Tryd.func40, Tryd.ntmps40
        go_wp2
        go_quiet (fail)
        go_wp2
        go_ret
        exact ⟨rfl, pw_below_drewN (Below.alloc (Below.refl _ _) (Nat.le_refl _) _) _⟩
      by_cases b2 : 143 < x1.toNat
      · have hr : fullN s.size x0.toNat x1.toNat x2.toNat = true := by simp [fullN, hX, accLo, accHi]; omega
        rw [hr]
        have d1 : decide ((s.size : Int) ≥ 4) = false := by simp; omega
        have d2 : decide ((s.size : Int) > 1) = true := by simp; omega
        have e1 : decide ((x1.toNat : Int) < 128) = false := by simp; omega
        have e2 : decide (143 < (x1.toNat : Int)) = true := by simp; omega
        clear hr hX hT
        go_enter Tryd.func40, Tryd.ntmps40
        go_wp2
        go_quiet (fail)
        go_wp2
        go_ret
        exact ⟨rfl, pw_below_drewN (Below.alloc (Below.refl _ _) (Nat.le_refl _) _) _⟩
      by_cases h2 : s.size = 2
      · have hr : fullN s.size x0.toNat x1.toNat x2.toNat = false := by simp [fullN, hX, accLo, accHi]; omega
        rw [hr]
        have d1 : decide ((s.size : Int) ≥ 4) = false := by simp; omega
        have d2 : decide ((s.size : Int) > 1) = true := by simp; omega
        have e1 : decide ((x1.toNat : Int) < 128) = false := by simp; omega
        have e2 : decide (143 < (x1.toNat : Int)) = false := by simp; omega
        have d3 : decide ((s.size : Int) > 2) = false := by simp; omega
        clear hr hX hT
        go_enter Tryd.func40, Tryd.ntmps40
        go_wp2
        go_quiet (fail)
        go_wp2
        go_ret
        exact ⟨rfl, pw_below_drewN (Below.alloc (Below.refl _ _) (Nat.le_refl _) _) _⟩
      have hz2 : (2 : Int) < (s.size : Int) := by omega
      have hs2 : s[2]'(by omega) = x2 := by rw [← hx2]; exact (Utf8W.get!_of_lt s 2 (by omega)).symm
      by_cases c1 : x2.toNat < 128
      · have hr : fullN s.size x0.toNat x1.toNat x2.toNat = true := by simp [fullN, hX, accLo, accHi]; omega
        rw [hr]
        have d1 : decide ((s.size : Int) ≥ 4) = false := by simp; omega
        have d2 : decide ((s.size : Int) > 1) = true := by simp; omega
        have e1 : decide ((x1.toNat : Int) < 128) = false := by simp; omega
        have e2 : decide (143 < (x1.toNat : Int)) = false := by simp; omega
        have d3 : decide ((s.size : Int) > 2) = true := by simp; omega
        have g1 : decide ((x2.toNat : Int) < 128) = true := by simp; omega
        clear hr hX hT
        go_enter Tryd.func40, Tryd.ntmps40
        go_wp2
        go_quiet (fail)
        go_wp2
        go_ret
        exact ⟨rfl, pw_below_drewN (Below.alloc (Below.refl _ _) (Nat.le_refl _) _) _⟩
      by_cases c2 : 191 < x2.toNat
      · have hr : fullN s.size x0.toNat x1.toNat x2.toNat = true := by simp [fullN, hX, accLo, accHi]; omega
        rw [hr]
        have d1 : decide ((s.size : Int) ≥ 4) = false := by simp; omega
        have d2 : decide ((s.size : Int) > 1) = true := by simp; omega
        have e1 : decide ((x1.toNat : Int) < 128) = false := by simp; omega
        have e2 : decide (143 < (x1.toNat : Int)) = false := by simp; omega
        have d3 : decide ((s.size : Int) > 2) = true := by simp; omega
        have g1 : decide ((x2.toNat : Int) < 128) = false := by simp; omega
        have g2 : decide (191 < (x2.toNat : Int)) = true := by simp; omega
        clear hr hX hT
        go_enter Tryd.func40, Tryd.ntmps40
        go_wp2
        go_quiet (fail)
        go_wp2
        go_ret
        exact ⟨rfl, pw_below_drewN (Below.alloc (Below.refl _ _) (Nat.le_refl _) _) _⟩
      have hr : fullN s.size x0.toNat x1.toNat x2.toNat = false := by simp [fullN, hX, accLo, accHi]; omega
      rw [hr]
      have d1 : decide ((s.size : Int) ≥ 4) = false := by simp; omega
      have d2 : decide ((s.size : Int) > 1) = true := by simp; omega
      have e1 : decide ((x1.toNat : Int) < 128) = false := by simp; omega
      have e2 : decide (143 < (x1.toNat : Int)) = false := by simp; omega
      have d3 : decide ((s.size : Int) > 2) = true := by simp; omega
      have g1 : decide ((x2.toNat : Int) < 128) = false := by simp; omega
      have g2 : decide (191 < (x2.toNat : Int)) = false := by simp; omega
      clear hr hX hT
      go_enter Tryd.func40, Tryd.ntmps40
      go_wp2
      go_quiet (fail)
      go_wp2
      go_ret
      exact ⟨rfl, pw_below_drewN (Below.alloc (Below.refl _ _) (Nat.le_refl _) _) _⟩
end Go.Proofs.YthipdgnbpdngpaaDoor
