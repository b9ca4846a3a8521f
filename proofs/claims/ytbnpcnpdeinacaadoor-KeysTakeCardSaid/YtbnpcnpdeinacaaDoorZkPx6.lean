-- A copy of the text YtbnpcnpdeinacaaDoorPx6 with what this claim does not reach left out (prune.py, a program of this project).
import Derived.Test.YtbnpcnpdeinacaaDoorZkPx0
namespace Go.Proofs.YtbnpcnpdeinacaaDoor.P
open Go.RowKit Go.Proofs.YtbnpcnpdeinacaaDoor Go.Proofs.YtbnpcnpdeinacaaDoorW.PrintWords Go.Proofs.YtbnpcnpdeinacaaDoorW.PrintLast Go.Proofs.YtbnpcnpdeinacaaDoorW.PrintMore
attribute [local go_sem] max2_int min2_int max_two min_two max_three min_three max_four min_four   -- for this text's walks alone
set_option linter.unusedVariables false
set_option linter.unusedSimpArgs false
mutual
def backseatref03_Names.l0 : Nat → List ByteArray → Int → Option (List ByteArray)
  | 0, _, _ => none
  | k + 1, x1, x2 => if x2 ≤ 122 then (if x2 = 105 then (backseatref03_Names.l0 k x1 ((x2 + 1) % 256)) else (if x2 = 109 then (backseatref03_Names.l0 k x1 ((x2 + 1) % 256)) else ((some (([x2] : List Int) : List Int)).bind fun y154 => (if 2 + (strOfNums y154).size ≤ 9223372036854775807 then (if x1.length < 8796093022208 then (backseatref03_Names.l0 k (x1 ++ [(⟨#[67, 45]⟩ : ByteArray) ++ (strOfNums y154)]) ((x2 + 1) % 256)) else (none)) else (none))))) else (backseatref03_Names.l1 k x1 52)
def backseatref03_Names.l1 : Nat → List ByteArray → Int → Option (List ByteArray)
  | 0, _, _ => none
  | k + 1, x1, x3 => if x3 ≤ 55 then ((some (([x3] : List Int) : List Int)).bind fun y160 => (if 2 + (strOfNums y160).size ≤ 9223372036854775807 then (if x1.length < 8796093022208 then (backseatref03_Names.l1 k (x1 ++ [(⟨#[67, 45]⟩ : ByteArray) ++ (strOfNums y160)]) ((x3 + 1) % 256)) else (none)) else (none))) else (some x1)
end
def backseatref03_Names.f (k : Nat)  : Option (List ByteArray) := backseatref03_Names.l0 k (([(⟨#[85, 112]⟩ : ByteArray), (⟨#[68, 111, 119, 110]⟩ : ByteArray), (⟨#[82, 105, 103, 104, 116]⟩ : ByteArray), (⟨#[76, 101, 102, 116]⟩ : ByteArray), (⟨#[72, 111, 109, 101]⟩ : ByteArray), (⟨#[69, 110, 100]⟩ : ByteArray), (⟨#[73, 110, 115]⟩ : ByteArray), (⟨#[68, 101, 108]⟩ : ByteArray), (⟨#[80, 103, 85, 112]⟩ : ByteArray), (⟨#[80, 103, 68, 110]⟩ : ByteArray), (⟨#[70, 49]⟩ : ByteArray), (⟨#[70, 50]⟩ : ByteArray), (⟨#[70, 51]⟩ : ByteArray), (⟨#[70, 52]⟩ : ByteArray), (⟨#[69, 110, 116, 101, 114]⟩ : ByteArray), (⟨#[84, 97, 98]⟩ : ByteArray), (⟨#[66, 115, 112]⟩ : ByteArray), (⟨#[67, 45, 83, 112, 97, 99, 101]⟩ : ByteArray)] : List ByteArray)) 97
theorem backseatref03_Names.mono_l : ∀ k, (∀ y0 y1, LeO (backseatref03_Names.l0 k y0 y1) (backseatref03_Names.l0 (k + 1) y0 y1)) ∧ (∀ y0 y1, LeO (backseatref03_Names.l1 k y0 y1) (backseatref03_Names.l1 (k + 1) y0 y1))
  | 0 => ⟨fun _ _ r h => by simp [backseatref03_Names.l0] at h, fun _ _ r h => by simp [backseatref03_Names.l1] at h⟩
  | k + 1 => by
    obtain ⟨ih0, ih1⟩ := backseatref03_Names.mono_l k
    refine ⟨?_, ?_⟩
    · intro y0 y1
      unfold backseatref03_Names.l0
      repeat' first
      | (with_reducible exact ih0 _ _)
      | (with_reducible exact ih1 _ _)
      | (with_reducible exact LeO.refl _)
      | (with_reducible exact LeO.none _)
      | (with_reducible refine LeO.ite ?_ ?_)
      | (with_reducible refine LeO.bind ?_ (fun _ => ?_))
      | exact ih0 _ _
      | exact ih1 _ _
      | exact LeO.none _
      | refine LeO.ite ?_ ?_
      | refine LeO.bind ?_ (fun _ => ?_)
    · intro y0 y1
      unfold backseatref03_Names.l1
      repeat' first
      | (with_reducible exact ih0 _ _)
      | (with_reducible exact ih1 _ _)
      | (with_reducible exact LeO.refl _)
      | (with_reducible exact LeO.none _)
      | (with_reducible refine LeO.ite ?_ ?_)
      | (with_reducible refine LeO.bind ?_ (fun _ => ?_))
      | exact ih0 _ _
      | exact ih1 _ _
      | exact LeO.none _
      | refine LeO.ite ?_ ?_
      | refine LeO.bind ?_ (fun _ => ?_)
theorem backseatref03_Names.mono : ∀ k, LeO (backseatref03_Names.f k ) (backseatref03_Names.f (k + 1) ) := by
  intro  k
  obtain ⟨ih0, ih1⟩ := backseatref03_Names.mono_l k
  unfold backseatref03_Names.f
  repeat' first
      | (with_reducible exact ih0 _ _)
      | (with_reducible exact ih1 _ _)
      | (with_reducible exact LeO.refl _)
      | (with_reducible exact LeO.none _)
      | (with_reducible refine LeO.ite ?_ ?_)
      | (with_reducible refine LeO.bind ?_ (fun _ => ?_))
      | exact ih0 _ _
      | exact ih1 _ _
      | exact LeO.none _
      | refine LeO.ite ?_ ?_
      | refine LeO.bind ?_ (fun _ => ?_)
set_option maxHeartbeats 8000000 in
set_option maxRecDepth 100000 in
theorem backseatref03_Names.calls (k : Nat)  (r : List ByteArray) (w : World) (h : backseatref03_Names.f k  = some r) :
    Calls Tryd.prog 31 #[] w fun e w' => ∃ v0_ : Value, e = .returned (v0_) ∧ Kd.R Kd.string 9 w' w.heap.size (fun _ => True) v0_ r ∧ Below w.heap.size w w' := by
  have HB := Aside0.mk (Below.refl w.heap.size w)
  have H : (backseatref03_Names.l0 k (([(⟨#[85, 112]⟩ : ByteArray), (⟨#[68, 111, 119, 110]⟩ : ByteArray), (⟨#[82, 105, 103, 104, 116]⟩ : ByteArray), (⟨#[76, 101, 102, 116]⟩ : ByteArray), (⟨#[72, 111, 109, 101]⟩ : ByteArray), (⟨#[69, 110, 100]⟩ : ByteArray), (⟨#[73, 110, 115]⟩ : ByteArray), (⟨#[68, 101, 108]⟩ : ByteArray), (⟨#[80, 103, 85, 112]⟩ : ByteArray), (⟨#[80, 103, 68, 110]⟩ : ByteArray), (⟨#[70, 49]⟩ : ByteArray), (⟨#[70, 50]⟩ : ByteArray), (⟨#[70, 51]⟩ : ByteArray), (⟨#[70, 52]⟩ : ByteArray), (⟨#[69, 110, 116, 101, 114]⟩ : ByteArray), (⟨#[84, 97, 98]⟩ : ByteArray), (⟨#[66, 115, 112]⟩ : ByteArray), (⟨#[67, 45, 83, 112, 97, 99, 101]⟩ : ByteArray)] : List ByteArray)) 97) = some r := h
  clear h
  obtain ⟨y151, hy151⟩ : ∃ y_ : List ByteArray, y_ = (([(⟨#[85, 112]⟩ : ByteArray), (⟨#[68, 111, 119, 110]⟩ : ByteArray), (⟨#[82, 105, 103, 104, 116]⟩ : ByteArray), (⟨#[76, 101, 102, 116]⟩ : ByteArray), (⟨#[72, 111, 109, 101]⟩ : ByteArray), (⟨#[69, 110, 100]⟩ : ByteArray), (⟨#[73, 110, 115]⟩ : ByteArray), (⟨#[68, 101, 108]⟩ : ByteArray), (⟨#[80, 103, 85, 112]⟩ : ByteArray), (⟨#[80, 103, 68, 110]⟩ : ByteArray), (⟨#[70, 49]⟩ : ByteArray), (⟨#[70, 50]⟩ : ByteArray), (⟨#[70, 51]⟩ : ByteArray), (⟨#[70, 52]⟩ : ByteArray), (⟨#[69, 110, 116, 101, 114]⟩ : ByteArray), (⟨#[84, 97, 98]⟩ : ByteArray), (⟨#[66, 115, 112]⟩ : ByteArray), (⟨#[67, 45, 83, 112, 97, 99, 101]⟩ : ByteArray)] : List ByteArray)) := ⟨_, rfl⟩
  replace H : (backseatref03_Names.l0 k y151 97) = some r := by first | (rw [hy151]; with_reducible exact H) | (have H2_ := (Option.bind_some _ _).symm.trans H; rw [hy151]; with_reducible exact H2_) | (have H2_ := (Option.bind_some _ _).symm.trans H; with_reducible exact H2_) | with_reducible exact H | (rw [hy151]; exact H) | exact H
  have Ny151 := Aside0.mk hy151
  clear hy151
  have H' := Aside0.mk H
  clear H
  go_enter Tryd.func31, Tryd.ntmps31
  go_wp2_with (first | ((with_reducible refine gate_dst (N := 4) rfl ?_); refine Kd.R_lit Kd.string _ 9 ?hg (N := 4) ?hd (xs := ([(⟨#[85, 112]⟩ : ByteArray), (⟨#[68, 111, 119, 110]⟩ : ByteArray), (⟨#[82, 105, 103, 104, 116]⟩ : ByteArray), (⟨#[76, 101, 102, 116]⟩ : ByteArray), (⟨#[72, 111, 109, 101]⟩ : ByteArray), (⟨#[69, 110, 100]⟩ : ByteArray), (⟨#[73, 110, 115]⟩ : ByteArray), (⟨#[68, 101, 108]⟩ : ByteArray), (⟨#[80, 103, 85, 112]⟩ : ByteArray), (⟨#[80, 103, 68, 110]⟩ : ByteArray), (⟨#[70, 49]⟩ : ByteArray), (⟨#[70, 50]⟩ : ByteArray), (⟨#[70, 51]⟩ : ByteArray), (⟨#[70, 52]⟩ : ByteArray), (⟨#[69, 110, 116, 101, 114]⟩ : ByteArray), (⟨#[84, 97, 98]⟩ : ByteArray), (⟨#[66, 115, 112]⟩ : ByteArray), (⟨#[67, 45, 83, 112, 97, 99, 101]⟩ : ByteArray)] : List ByteArray)) (inner := [.string (⟨#[85, 112]⟩ : ByteArray), .string (⟨#[68, 111, 119, 110]⟩ : ByteArray), .string (⟨#[82, 105, 103, 104, 116]⟩ : ByteArray), .string (⟨#[76, 101, 102, 116]⟩ : ByteArray), .string (⟨#[72, 111, 109, 101]⟩ : ByteArray), .string (⟨#[69, 110, 100]⟩ : ByteArray), .string (⟨#[73, 110, 115]⟩ : ByteArray), .string (⟨#[68, 101, 108]⟩ : ByteArray), .string (⟨#[80, 103, 85, 112]⟩ : ByteArray), .string (⟨#[80, 103, 68, 110]⟩ : ByteArray), .string (⟨#[70, 49]⟩ : ByteArray), .string (⟨#[70, 50]⟩ : ByteArray), .string (⟨#[70, 51]⟩ : ByteArray), .string (⟨#[70, 52]⟩ : ByteArray), .string (⟨#[69, 110, 116, 101, 114]⟩ : ByteArray), .string (⟨#[84, 97, 98]⟩ : ByteArray), .string (⟨#[66, 115, 112]⟩ : ByteArray), .string (⟨#[67, 45, 83, 112, 97, 99, 101]⟩ : ByteArray)]) (ok := fun _ => True) (okp := fun _ => True) ?hr ?hp (fun _ hk => hk) trivial (Below.refl _ _) (Nat.le_refl _) (by simp) ?_; (case hd => rfl); (case hg => rfl); (case hr => first | (go_simp; done) | (go_simp; rfl)); (case hp => exact (Reps.one (show Kd.M Kd.string _ _ _ (⟨#[85, 112]⟩ : ByteArray) [.string (⟨#[85, 112]⟩ : ByteArray)] from rfl) (Reps.one (show Kd.M Kd.string _ _ _ (⟨#[68, 111, 119, 110]⟩ : ByteArray) [.string (⟨#[68, 111, 119, 110]⟩ : ByteArray)] from rfl) (Reps.one (show Kd.M Kd.string _ _ _ (⟨#[82, 105, 103, 104, 116]⟩ : ByteArray) [.string (⟨#[82, 105, 103, 104, 116]⟩ : ByteArray)] from rfl) (Reps.one (show Kd.M Kd.string _ _ _ (⟨#[76, 101, 102, 116]⟩ : ByteArray) [.string (⟨#[76, 101, 102, 116]⟩ : ByteArray)] from rfl) (Reps.one (show Kd.M Kd.string _ _ _ (⟨#[72, 111, 109, 101]⟩ : ByteArray) [.string (⟨#[72, 111, 109, 101]⟩ : ByteArray)] from rfl) (Reps.one (show Kd.M Kd.string _ _ _ (⟨#[69, 110, 100]⟩ : ByteArray) [.string (⟨#[69, 110, 100]⟩ : ByteArray)] from rfl) (Reps.one (show Kd.M Kd.string _ _ _ (⟨#[73, 110, 115]⟩ : ByteArray) [.string (⟨#[73, 110, 115]⟩ : ByteArray)] from rfl) (Reps.one (show Kd.M Kd.string _ _ _ (⟨#[68, 101, 108]⟩ : ByteArray) [.string (⟨#[68, 101, 108]⟩ : ByteArray)] from rfl) (Reps.one (show Kd.M Kd.string _ _ _ (⟨#[80, 103, 85, 112]⟩ : ByteArray) [.string (⟨#[80, 103, 85, 112]⟩ : ByteArray)] from rfl) (Reps.one (show Kd.M Kd.string _ _ _ (⟨#[80, 103, 68, 110]⟩ : ByteArray) [.string (⟨#[80, 103, 68, 110]⟩ : ByteArray)] from rfl) (Reps.one (show Kd.M Kd.string _ _ _ (⟨#[70, 49]⟩ : ByteArray) [.string (⟨#[70, 49]⟩ : ByteArray)] from rfl) (Reps.one (show Kd.M Kd.string _ _ _ (⟨#[70, 50]⟩ : ByteArray) [.string (⟨#[70, 50]⟩ : ByteArray)] from rfl) (Reps.one (show Kd.M Kd.string _ _ _ (⟨#[70, 51]⟩ : ByteArray) [.string (⟨#[70, 51]⟩ : ByteArray)] from rfl) (Reps.one (show Kd.M Kd.string _ _ _ (⟨#[70, 52]⟩ : ByteArray) [.string (⟨#[70, 52]⟩ : ByteArray)] from rfl) (Reps.one (show Kd.M Kd.string _ _ _ (⟨#[69, 110, 116, 101, 114]⟩ : ByteArray) [.string (⟨#[69, 110, 116, 101, 114]⟩ : ByteArray)] from rfl) (Reps.one (show Kd.M Kd.string _ _ _ (⟨#[84, 97, 98]⟩ : ByteArray) [.string (⟨#[84, 97, 98]⟩ : ByteArray)] from rfl) (Reps.one (show Kd.M Kd.string _ _ _ (⟨#[66, 115, 112]⟩ : ByteArray) [.string (⟨#[66, 115, 112]⟩ : ByteArray)] from rfl) (Reps.one (show Kd.M Kd.string _ _ _ (⟨#[67, 45, 83, 112, 97, 99, 101]⟩ : ByteArray) [.string (⟨#[67, 45, 83, 112, 97, 99, 101]⟩ : ByteArray)] from rfl) (Reps.none _ _)))))))))))))))))))); intro v152 w1 ho2 hb hg_ hnew_; clear hg_ hnew_; (first | rw [← Ny151.out] at ho2 | (simp only [Int.reduceToNat] at ho2; rw [← Ny151.out] at ho2)); have n0_ := Aside0.mk (Kd.R_lower ho2 (below_size (by repeat (first | (with_reducible first | exact HB.out | apply below_alloc | apply pw_below_drewN | apply below_drew1) | exact HB.out)))); have n1_ := Aside0.mk (below_step (by repeat (first | (with_reducible first | exact HB.out | apply below_alloc | apply pw_below_drewN | apply below_drew1) | exact HB.out)) hb); clear HB; have HO153 := n0_; have HB := n1_; clear n0_ n1_; clear hb ho2))
  go_loopg [1, 2] k (fun kq v1 v2 w' => ∃ (x1_1 : List ByteArray) (x2_1 : Int), v2 = .int .u8 x2_1 ∧ Aside0 (backseatref03_Names.l0 kq x1_1 x2_1 = some r) ∧ Aside0 (kq ≤ k) ∧ Aside0 (Kd.R Kd.string 9 w' w.heap.size (fun _ => True) v1 x1_1) ∧ Aside0 (Below w.heap.size w w'))
  case atStart => exact ⟨(y151), (97), (by first | rfl | (simp; done) | (simp [*]; done)), H', ⟨Nat.le_refl _⟩, ⟨by (with_reducible repeat (first | apply Kd.R_alloc | apply Kd.R_drewN | apply Kd.R_drew)); exact HO153.out⟩, ⟨by repeat (first | (with_reducible first | exact HB.out | apply below_alloc | apply pw_below_drewN | apply below_drew1) | exact HB.out)⟩⟩
  case round =>
    clear H'
    try clear p2
    obtain ⟨x1_1, x2_1, rfl, HA, HK1, HO_1, HB⟩ := hrel
    cases gk with
    | zero => exact absurd HA.out (by simp [backseatref03_Names.l0])
    | succ k1 =>
      have H := HA.out
      clear HA
      simp only [backseatref03_Names.l0] at H
      by_cases c3 : x2_1 ≤ 122
      · rw [if_pos c3] at H
        have c3b0 : decide (x2_1 ≤ 122) = true := decide_eq_true c3
        clear c3
        by_cases c4 : x2_1 = 105
        · rw [if_pos c4] at H
          have c4b0 : (x2_1 == 105) = true := beq_iff_eq.mpr c4
          have c4b1 : (x2_1 != 105) = false := bne_eq_false_iff_eq.mpr c4
          clear c4
          have H' := Aside0.mk H
          clear H
          go_wp2
          go_roundg k1
          case measure => have := HK1.out; omega
          case rel => exact ⟨(x1_1), ((x2_1 + 1) % 256), (by first | rfl | (simp; done) | (simp [*]; done)), H', ⟨by have := HK1.out; omega⟩, ⟨by (with_reducible repeat (first | apply Kd.R_alloc | apply Kd.R_drewN | apply Kd.R_drew)); exact HO_1.out⟩, ⟨by repeat (first | (with_reducible first | exact HB.out | apply below_alloc | apply pw_below_drewN | apply below_drew1) | exact HB.out)⟩⟩
        · rw [if_neg c4] at H
          have c4b0 : (x2_1 == 105) = false := beq_eq_false_iff_ne.mpr c4
          have c4b1 : (x2_1 != 105) = true := bne_iff_ne.mpr c4
          by_cases c5 : x2_1 = 109
          · rw [if_pos c5] at H
            have c5b0 : (x2_1 == 109) = true := beq_iff_eq.mpr c5
            have c5b1 : (x2_1 != 109) = false := bne_eq_false_iff_eq.mpr c5
            clear c5
            have H' := Aside0.mk H
            clear H
            go_wp2
            go_roundg k1
            case measure => have := HK1.out; omega
            case rel => exact ⟨(x1_1), ((x2_1 + 1) % 256), (by first | rfl | (simp; done) | (simp [*]; done)), H', ⟨by have := HK1.out; omega⟩, ⟨by (with_reducible repeat (first | apply Kd.R_alloc | apply Kd.R_drewN | apply Kd.R_drew)); exact HO_1.out⟩, ⟨by repeat (first | (with_reducible first | exact HB.out | apply below_alloc | apply pw_below_drewN | apply below_drew1) | exact HB.out)⟩⟩
          · rw [if_neg c5] at H
            have c5b0 : (x2_1 == 109) = false := beq_eq_false_iff_ne.mpr c5
            have c5b1 : (x2_1 != 109) = true := bne_iff_ne.mpr c5
            obtain ⟨y154, hy154⟩ : ∃ y_ : List Int, y_ = (([x2_1] : List Int)) := ⟨_, rfl⟩
            replace H : (if 2 + (strOfNums y154).size ≤ 9223372036854775807 then (if x1_1.length < 8796093022208 then (backseatref03_Names.l0 k1 (x1_1 ++ [(⟨#[67, 45]⟩ : ByteArray) ++ (strOfNums y154)]) ((x2_1 + 1) % 256)) else (none)) else (none)) = some r := by first | (rw [hy154]; with_reducible exact H) | (have H2_ := (Option.bind_some _ _).symm.trans H; rw [hy154]; with_reducible exact H2_) | (have H2_ := (Option.bind_some _ _).symm.trans H; with_reducible exact H2_) | with_reducible exact H | (rw [hy154]; exact H) | exact H
            have Ny154 := Aside0.mk hy154
            clear hy154
            by_cases c6 : 2 + (strOfNums y154).size ≤ 9223372036854775807
            · rw [if_pos c6] at H
              have c6b0 := eq_true c6
              have c6b1 : decide (2 + (strOfNums y154).size ≤ 9223372036854775807) = true := decide_eq_true c6
              try have c6b2 : (9223372036854775807 < 2 + (strOfNums y154).size) = False := eq_false (Nat.not_lt.2 c6)
              by_cases c7 : x1_1.length < 8796093022208
              · rw [if_pos c7] at H
                have LMc7 := Aside0.mk c7
                clear c7
                obtain ⟨y157, hy157⟩ : ∃ y_ : List ByteArray, y_ = (x1_1 ++ [(⟨#[67, 45]⟩ : ByteArray) ++ (strOfNums y154)]) := ⟨_, rfl⟩
                replace H : (backseatref03_Names.l0 k1 y157 ((x2_1 + 1) % 256)) = some r := by first | (rw [hy157]; with_reducible exact H) | (have H2_ := (Option.bind_some _ _).symm.trans H; rw [hy157]; with_reducible exact H2_) | (have H2_ := (Option.bind_some _ _).symm.trans H; with_reducible exact H2_) | with_reducible exact H | (rw [hy157]; exact H) | exact H
                have Ny157 := Aside0.mk hy157
                clear hy157
                have H' := Aside0.mk H
                clear H
                go_wp2_with (first | ((with_reducible refine gate_dst (N := 17) rfl ?_); refine Kd.R_lit (Kd.int .u8) _ 5 ?hg (N := 17) ?hd (xs := ([x2_1] : List Int)) (inner := [.int .u8 x2_1]) (ok := fun _ => True) (okp := fun _ => True) ?hr ?hp (fun _ hk => hk) trivial (Below.refl _ _) (Nat.le_refl _) (by simp) ?_; (case hd => rfl); (case hg => rfl); (case hr => first | (go_simp; done) | (go_simp; rfl)); (case hp => exact (Reps.one (show Kd.M (Kd.int .u8) _ _ _ x2_1 [.int .u8 x2_1] from rfl) (Reps.none _ _))); intro v155 w8 ho9 hb hg_ hnew_; clear hg_ hnew_; (first | rw [← Ny154.out] at ho9 | (simp only [Int.reduceToNat] at ho9; rw [← Ny154.out] at ho9)); have n0_ := Aside0.mk (Kd.R_below (by (with_reducible repeat (first | apply Kd.R_alloc | apply Kd.R_drewN | apply Kd.R_drew)); exact HO_1.out) hb); have n1_ := Aside0.mk (Kd.R_lower ho9 (below_size (by repeat (first | (with_reducible first | exact HB.out | apply below_alloc | apply pw_below_drewN | apply below_drew1) | exact HB.out)))); have n2_ := Aside0.mk (below_step (by repeat (first | (with_reducible first | exact HB.out | apply below_alloc | apply pw_below_drewN | apply below_drew1) | exact HB.out)) hb); clear HO_1; clear HB; have HO_1 := n0_; have HO156 := n1_; have HB := n2_; clear n0_ n1_ n2_; clear hb ho9; have hcv10 := own_string (P := Tryd.prog) Tryd.underlying66 Tryd.underlying5 Tryd.underlying9 (Kd.own_of_R HO156.out)) | ((with_reducible refine gate_builtin (b := .append) (xs := #[.tmp 15, .tmp 20]) rfl ?_); at_builtin; refine Kd.R_append Kd.string (w0 := w) w.heap.size rfl (.tmp 15) (.tmp 20) 23 9 (.string ⟨#[]⟩) 16 rfl Tryd.underlying23 info9 rfl (by decide) (by omega) u1 x1_1 ((⟨#[67, 45]⟩ : ByteArray) ++ (strOfNums y154)) [.string ((⟨#[67, 45]⟩ : ByteArray) ++ (strOfNums y154))] (fun _ => True) (fun _ => False) rfl rfl ?aP (fun _ hk => hk.elim) ?aF ?aO ?aB ?aS ?aL ?_; (case aP => exact rfl); (case aB => exact (by repeat (first | (with_reducible first | exact HB.out | apply below_alloc | apply pw_below_drewN | apply below_drew1) | exact HB.out))); (case aF => exact (fun _ _ => trivial)); (case aO => exact (by (with_reducible repeat (first | apply Kd.R_alloc | apply Kd.R_drewN | apply Kd.R_drew)); exact HO_1.out)); (case aS => exact (below_size (by repeat (first | (with_reducible first | exact HB.out | apply below_alloc | apply pw_below_drewN | apply below_drew1) | exact HB.out)))); (case aL => have := LMc7.out; omega); intro v158 w11 ho hb hg hat; rw [← Ny157.out] at ho; have n0_ := Aside0.mk (Kd.R_over' (by (with_reducible repeat (first | apply Kd.R_alloc | apply Kd.R_drewN | apply Kd.R_drew)); exact HO156.out) (Kd.R_typed (by (with_reducible repeat (first | apply Kd.R_alloc | apply Kd.R_drewN | apply Kd.R_drew)); exact HO_1.out)) (by decide) hg); have n1_ := Aside0.mk (hb); have n2_ := Aside0.mk (ho); clear HO156; clear HB; clear HO_1; have HO156 := n0_; have HB := n1_; have HO159 := n2_; clear n0_ n1_ n2_; clear ho hb hg hat))
                go_roundg k1
                case measure => have := HK1.out; omega
                case rel => exact ⟨(y157), ((x2_1 + 1) % 256), (by first | rfl | (simp; done) | (simp [*]; done)), H', ⟨by have := HK1.out; omega⟩, ⟨by (with_reducible repeat (first | apply Kd.R_alloc | apply Kd.R_drewN | apply Kd.R_drew)); exact HO159.out⟩, ⟨by repeat (first | (with_reducible first | exact HB.out | apply below_alloc | apply pw_below_drewN | apply below_drew1) | exact HB.out)⟩⟩
              · rw [if_neg c7] at H
                exact absurd H (by simp)
            · rw [if_neg c6] at H
              exact absurd H (by simp)
      · rw [if_neg c3] at H
        have c3b0 : decide (x2_1 ≤ 122) = false := decide_eq_false c3
        clear c3
        have H' := Aside0.mk H
        clear H
        go_wp2
        go_loopg [1, 3] k1 (fun kq v1 v3 w' => ∃ (x1_2 : List ByteArray) (x3_2 : Int), v3 = .int .u8 x3_2 ∧ Aside0 (backseatref03_Names.l1 kq x1_2 x3_2 = some r) ∧ Aside0 (kq ≤ k1) ∧ Aside0 (Kd.R Kd.string 9 w' w.heap.size (fun _ => True) v1 x1_2) ∧ Aside0 (Below w.heap.size w w'))
        case atStart => exact ⟨(x1_1), (52), (by first | rfl | (simp; done) | (simp [*]; done)), H', ⟨Nat.le_refl _⟩, ⟨by (with_reducible repeat (first | apply Kd.R_alloc | apply Kd.R_drewN | apply Kd.R_drew)); exact HO_1.out⟩, ⟨by repeat (first | (with_reducible first | exact HB.out | apply below_alloc | apply pw_below_drewN | apply below_drew1) | exact HB.out)⟩⟩
        case round =>
          clear H'
          try clear hcv1
          try clear p2
          try clear c3
          try clear c3b0
          try clear c4
          try clear c4b0
          try clear c4b1
          try clear c5
          try clear c5b0
          try clear c5b1
          try clear c6
          try clear c6b0
          try clear c6b1
          try clear c6b2
          try clear c7
          try clear hcv10
          try clear p2
          obtain ⟨x1_2, x3_2, rfl, HA, HK2, HO_1, HB⟩ := hrel
          cases gk with
          | zero => exact absurd HA.out (by simp [backseatref03_Names.l1])
          | succ k2 =>
            have H := HA.out
            clear HA
            simp only [backseatref03_Names.l1] at H
            by_cases c12 : x3_2 ≤ 55
            · rw [if_pos c12] at H
              have c12b0 : decide (x3_2 ≤ 55) = true := decide_eq_true c12
              clear c12
              obtain ⟨y160, hy160⟩ : ∃ y_ : List Int, y_ = (([x3_2] : List Int)) := ⟨_, rfl⟩
              replace H : (if 2 + (strOfNums y160).size ≤ 9223372036854775807 then (if x1_2.length < 8796093022208 then (backseatref03_Names.l1 k2 (x1_2 ++ [(⟨#[67, 45]⟩ : ByteArray) ++ (strOfNums y160)]) ((x3_2 + 1) % 256)) else (none)) else (none)) = some r := by first | (rw [hy160]; with_reducible exact H) | (have H2_ := (Option.bind_some _ _).symm.trans H; rw [hy160]; with_reducible exact H2_) | (have H2_ := (Option.bind_some _ _).symm.trans H; with_reducible exact H2_) | with_reducible exact H | (rw [hy160]; exact H) | exact H
              have Ny160 := Aside0.mk hy160
              clear hy160
              by_cases c13 : 2 + (strOfNums y160).size ≤ 9223372036854775807
              · rw [if_pos c13] at H
                have c13b0 := eq_true c13
                have c13b1 : decide (2 + (strOfNums y160).size ≤ 9223372036854775807) = true := decide_eq_true c13
                try have c13b2 : (9223372036854775807 < 2 + (strOfNums y160).size) = False := eq_false (Nat.not_lt.2 c13)
                by_cases c14 : x1_2.length < 8796093022208
                · rw [if_pos c14] at H
                  have LMc14 := Aside0.mk c14
                  clear c14
                  obtain ⟨y163, hy163⟩ : ∃ y_ : List ByteArray, y_ = (x1_2 ++ [(⟨#[67, 45]⟩ : ByteArray) ++ (strOfNums y160)]) := ⟨_, rfl⟩
                  replace H : (backseatref03_Names.l1 k2 y163 ((x3_2 + 1) % 256)) = some r := by first | (rw [hy163]; with_reducible exact H) | (have H2_ := (Option.bind_some _ _).symm.trans H; rw [hy163]; with_reducible exact H2_) | (have H2_ := (Option.bind_some _ _).symm.trans H; with_reducible exact H2_) | with_reducible exact H | (rw [hy163]; exact H) | exact H
                  have Ny163 := Aside0.mk hy163
                  clear hy163
                  have H' := Aside0.mk H
                  clear H
                  go_wp2_with (first | ((with_reducible refine gate_dst (N := 28) rfl ?_); refine Kd.R_lit (Kd.int .u8) _ 5 ?hg (N := 28) ?hd (xs := ([x3_2] : List Int)) (inner := [.int .u8 x3_2]) (ok := fun _ => True) (okp := fun _ => True) ?hr ?hp (fun _ hk => hk) trivial (Below.refl _ _) (Nat.le_refl _) (by simp) ?_; (case hd => rfl); (case hg => rfl); (case hr => first | (go_simp; done) | (go_simp; rfl)); (case hp => exact (Reps.one (show Kd.M (Kd.int .u8) _ _ _ x3_2 [.int .u8 x3_2] from rfl) (Reps.none _ _))); intro v161 w15 ho16 hb hg_ hnew_; clear hg_ hnew_; (first | rw [← Ny160.out] at ho16 | (simp only [Int.reduceToNat] at ho16; rw [← Ny160.out] at ho16)); have n0_ := Aside0.mk (Kd.R_below (by (with_reducible repeat (first | apply Kd.R_alloc | apply Kd.R_drewN | apply Kd.R_drew)); exact HO_1.out) hb); have n1_ := Aside0.mk (Kd.R_lower ho16 (below_size (by repeat (first | (with_reducible first | exact HB.out | apply below_alloc | apply pw_below_drewN | apply below_drew1) | exact HB.out)))); have n2_ := Aside0.mk (below_step (by repeat (first | (with_reducible first | exact HB.out | apply below_alloc | apply pw_below_drewN | apply below_drew1) | exact HB.out)) hb); clear HO_1; clear HB; have HO_1 := n0_; have HO162 := n1_; have HB := n2_; clear n0_ n1_ n2_; clear hb ho16; have hcv17 := own_string (P := Tryd.prog) Tryd.underlying66 Tryd.underlying5 Tryd.underlying9 (Kd.own_of_R HO162.out)) | ((with_reducible refine gate_builtin (b := .append) (xs := #[.tmp 26, .tmp 31]) rfl ?_); at_builtin; refine Kd.R_append Kd.string (w0 := w) w.heap.size rfl (.tmp 26) (.tmp 31) 23 9 (.string ⟨#[]⟩) 16 rfl Tryd.underlying23 info9 rfl (by decide) (by omega) u1 x1_2 ((⟨#[67, 45]⟩ : ByteArray) ++ (strOfNums y160)) [.string ((⟨#[67, 45]⟩ : ByteArray) ++ (strOfNums y160))] (fun _ => True) (fun _ => False) rfl rfl ?aP (fun _ hk => hk.elim) ?aF ?aO ?aB ?aS ?aL ?_; (case aP => exact rfl); (case aB => exact (by repeat (first | (with_reducible first | exact HB.out | apply below_alloc | apply pw_below_drewN | apply below_drew1) | exact HB.out))); (case aF => exact (fun _ _ => trivial)); (case aO => exact (by (with_reducible repeat (first | apply Kd.R_alloc | apply Kd.R_drewN | apply Kd.R_drew)); exact HO_1.out)); (case aS => exact (below_size (by repeat (first | (with_reducible first | exact HB.out | apply below_alloc | apply pw_below_drewN | apply below_drew1) | exact HB.out)))); (case aL => have := LMc14.out; omega); intro v164 w18 ho hb hg hat; rw [← Ny163.out] at ho; have n0_ := Aside0.mk (Kd.R_over' (by (with_reducible repeat (first | apply Kd.R_alloc | apply Kd.R_drewN | apply Kd.R_drew)); exact HO162.out) (Kd.R_typed (by (with_reducible repeat (first | apply Kd.R_alloc | apply Kd.R_drewN | apply Kd.R_drew)); exact HO_1.out)) (by decide) hg); have n1_ := Aside0.mk (hb); have n2_ := Aside0.mk (ho); clear HO162; clear HB; clear HO_1; have HO162 := n0_; have HB := n1_; have HO165 := n2_; clear n0_ n1_ n2_; clear ho hb hg hat))
                  go_roundg k2
                  case measure => have := HK1.out; have := HK2.out; omega
                  case rel => exact ⟨(y163), ((x3_2 + 1) % 256), (by first | rfl | (simp; done) | (simp [*]; done)), H', ⟨by have := HK1.out; have := HK2.out; omega⟩, ⟨by (with_reducible repeat (first | apply Kd.R_alloc | apply Kd.R_drewN | apply Kd.R_drew)); exact HO165.out⟩, ⟨by repeat (first | (with_reducible first | exact HB.out | apply below_alloc | apply pw_below_drewN | apply below_drew1) | exact HB.out)⟩⟩
                · rw [if_neg c14] at H
                  exact absurd H (by simp)
              · rw [if_neg c13] at H
                exact absurd H (by simp)
            · rw [if_neg c12] at H
              have c12b0 : decide (x3_2 ≤ 55) = false := decide_eq_false c12
              clear c12
              obtain rfl := Option.some.inj H
              go_wp2
              go_ret
              exact ⟨_, by first | rfl | (simp [errW_none, errW_some] <;> rfl) | (simp [*, errW_none, errW_some] <;> rfl), by (with_reducible repeat (first | apply Kd.R_alloc | apply Kd.R_drewN | apply Kd.R_drew)); exact HO_1.out, by repeat (first | (with_reducible first | exact HB.out | apply below_alloc | apply pw_below_drewN | apply below_drew1) | exact HB.out)⟩
def backseatref03_Named.l0 : Nat → ByteArray → List ByteArray → List ByteArray → Int → Int → Option (ByteArray)
  | 0, _, _, _, _, _ => none
  | k + 1, x0, x3, x8, x9, x10 => if x10 < x9 then (if 0 ≤ x10 then (if x10 < (x8.length : Int) then (if (rdOf ByteArray.empty x8 x10).toList = x0.toList then (if x10 < (x3.length : Int) then (some (rdOf ByteArray.empty x3 x10)) else (if 2 < (x0.size : Int) then (if (bt x0 2) ≥ 97 then (some (strOfNums (([((((bt x0 2) - 97) % 256) + 1) % 256] : List Int)))) else (some (strOfNums (([((((bt x0 2) - 52) % 256) + 28) % 256] : List Int))))) else (none))) else (backseatref03_Named.l0 k x0 x3 x8 x9 (wrap64 (x10 + 1)))) else (none)) else (none)) else (some (⟨#[]⟩ : ByteArray))
def backseatref03_Named.f (k : Nat) (a0 : ByteArray) : Option (ByteArray) := (backseatref03_Names.f k).bind fun t169 => (backseatref03_Named.l0 k a0 (([(⟨#[27, 91, 65]⟩ : ByteArray), (⟨#[27, 91, 66]⟩ : ByteArray), (⟨#[27, 91, 67]⟩ : ByteArray), (⟨#[27, 91, 68]⟩ : ByteArray), (⟨#[27, 91, 72]⟩ : ByteArray), (⟨#[27, 91, 70]⟩ : ByteArray), (⟨#[27, 91, 50, 126]⟩ : ByteArray), (⟨#[27, 91, 51, 126]⟩ : ByteArray), (⟨#[27, 91, 53, 126]⟩ : ByteArray), (⟨#[27, 91, 54, 126]⟩ : ByteArray), (⟨#[27, 79, 80]⟩ : ByteArray), (⟨#[27, 79, 81]⟩ : ByteArray), (⟨#[27, 79, 82]⟩ : ByteArray), (⟨#[27, 79, 83]⟩ : ByteArray), (⟨#[13]⟩ : ByteArray), (⟨#[9]⟩ : ByteArray), (⟨#[127]⟩ : ByteArray), (⟨#[0]⟩ : ByteArray)] : List ByteArray)) t169 (t169.length : Int) 0)
theorem backseatref03_Named.mono_l : ∀ k, (∀ y0 y1 y2 y3 y4, LeO (backseatref03_Named.l0 k y0 y1 y2 y3 y4) (backseatref03_Named.l0 (k + 1) y0 y1 y2 y3 y4))
  | 0 => fun _ _ _ _ _ r h => by simp [backseatref03_Named.l0] at h
  | k + 1 => by
    have ih0 := backseatref03_Named.mono_l k
    · intro y0 y1 y2 y3 y4
      unfold backseatref03_Named.l0
      repeat' first
      | (with_reducible exact ih0 _ _ _ _ _)
      | (with_reducible exact backseatref03_Names.mono _)
      | (with_reducible exact LeO.refl _)
      | (with_reducible exact LeO.none _)
      | (with_reducible refine LeO.ite ?_ ?_)
      | (with_reducible refine LeO.bind ?_ (fun _ => ?_))
      | exact ih0 _ _ _ _ _
      | exact backseatref03_Names.mono _
      | exact LeO.none _
      | refine LeO.ite ?_ ?_
      | refine LeO.bind ?_ (fun _ => ?_)
theorem backseatref03_Named.mono : ∀ a0 k, LeO (backseatref03_Named.f k a0) (backseatref03_Named.f (k + 1) a0) := by
  intro a0 k
  have ih0 := backseatref03_Named.mono_l k
  unfold backseatref03_Named.f
  repeat' first
      | (with_reducible exact ih0 _ _ _ _ _)
      | (with_reducible exact backseatref03_Names.mono _)
      | (with_reducible exact LeO.refl _)
      | (with_reducible exact LeO.none _)
      | (with_reducible refine LeO.ite ?_ ?_)
      | (with_reducible refine LeO.bind ?_ (fun _ => ?_))
      | exact ih0 _ _ _ _ _
      | exact backseatref03_Names.mono _
      | exact LeO.none _
      | refine LeO.ite ?_ ?_
      | refine LeO.bind ?_ (fun _ => ?_)
set_option maxHeartbeats 8000000 in
set_option maxRecDepth 100000 in
theorem backseatref03_Named.calls (k : Nat) (a0 : ByteArray) (r : ByteArray) (w : World) (h : backseatref03_Named.f k a0 = some r) :
    Calls Tryd.prog 17 #[.string a0] w fun e w' => e = .returned (.string r) ∧ Below w.heap.size w w' := by
  have HB := Aside0.mk (Below.refl w.heap.size w)
  have H : ((backseatref03_Names.f k).bind fun t169 => (backseatref03_Named.l0 k a0 (([(⟨#[27, 91, 65]⟩ : ByteArray), (⟨#[27, 91, 66]⟩ : ByteArray), (⟨#[27, 91, 67]⟩ : ByteArray), (⟨#[27, 91, 68]⟩ : ByteArray), (⟨#[27, 91, 72]⟩ : ByteArray), (⟨#[27, 91, 70]⟩ : ByteArray), (⟨#[27, 91, 50, 126]⟩ : ByteArray), (⟨#[27, 91, 51, 126]⟩ : ByteArray), (⟨#[27, 91, 53, 126]⟩ : ByteArray), (⟨#[27, 91, 54, 126]⟩ : ByteArray), (⟨#[27, 79, 80]⟩ : ByteArray), (⟨#[27, 79, 81]⟩ : ByteArray), (⟨#[27, 79, 82]⟩ : ByteArray), (⟨#[27, 79, 83]⟩ : ByteArray), (⟨#[13]⟩ : ByteArray), (⟨#[9]⟩ : ByteArray), (⟨#[127]⟩ : ByteArray), (⟨#[0]⟩ : ByteArray)] : List ByteArray)) t169 (t169.length : Int) 0)) = some r := h
  clear h
  obtain ⟨y166, hy166⟩ : ∃ y_ : List ByteArray, y_ = (([(⟨#[27, 91, 65]⟩ : ByteArray), (⟨#[27, 91, 66]⟩ : ByteArray), (⟨#[27, 91, 67]⟩ : ByteArray), (⟨#[27, 91, 68]⟩ : ByteArray), (⟨#[27, 91, 72]⟩ : ByteArray), (⟨#[27, 91, 70]⟩ : ByteArray), (⟨#[27, 91, 50, 126]⟩ : ByteArray), (⟨#[27, 91, 51, 126]⟩ : ByteArray), (⟨#[27, 91, 53, 126]⟩ : ByteArray), (⟨#[27, 91, 54, 126]⟩ : ByteArray), (⟨#[27, 79, 80]⟩ : ByteArray), (⟨#[27, 79, 81]⟩ : ByteArray), (⟨#[27, 79, 82]⟩ : ByteArray), (⟨#[27, 79, 83]⟩ : ByteArray), (⟨#[13]⟩ : ByteArray), (⟨#[9]⟩ : ByteArray), (⟨#[127]⟩ : ByteArray), (⟨#[0]⟩ : ByteArray)] : List ByteArray)) := ⟨_, rfl⟩
  replace H : ((backseatref03_Names.f k).bind fun t169 => (backseatref03_Named.l0 k a0 y166 t169 (t169.length : Int) 0)) = some r := by first | (rw [hy166]; with_reducible exact H) | (have H2_ := (Option.bind_some _ _).symm.trans H; rw [hy166]; with_reducible exact H2_) | (have H2_ := (Option.bind_some _ _).symm.trans H; with_reducible exact H2_) | with_reducible exact H | (rw [hy166]; exact H) | exact H
  have Ny166 := Aside0.mk hy166
  clear hy166
  replace H := Option.bind_eq_some_iff.mp H
  obtain ⟨t169, A20, H⟩ := H
  replace H : (backseatref03_Named.l0 k a0 y166 t169 (t169.length : Int) 0) = some r := H
  have A2 := Aside0.mk A20
  clear A20
  have H' := Aside0.mk H
  clear H
  go_enter Tryd.func17, Tryd.ntmps17
  go_wp2_with (first | ((with_reducible refine gate_dst (N := 7) rfl ?_); refine Kd.R_lit Kd.string _ 9 ?hg (N := 7) ?hd (xs := ([(⟨#[27, 91, 65]⟩ : ByteArray), (⟨#[27, 91, 66]⟩ : ByteArray), (⟨#[27, 91, 67]⟩ : ByteArray), (⟨#[27, 91, 68]⟩ : ByteArray), (⟨#[27, 91, 72]⟩ : ByteArray), (⟨#[27, 91, 70]⟩ : ByteArray), (⟨#[27, 91, 50, 126]⟩ : ByteArray), (⟨#[27, 91, 51, 126]⟩ : ByteArray), (⟨#[27, 91, 53, 126]⟩ : ByteArray), (⟨#[27, 91, 54, 126]⟩ : ByteArray), (⟨#[27, 79, 80]⟩ : ByteArray), (⟨#[27, 79, 81]⟩ : ByteArray), (⟨#[27, 79, 82]⟩ : ByteArray), (⟨#[27, 79, 83]⟩ : ByteArray), (⟨#[13]⟩ : ByteArray), (⟨#[9]⟩ : ByteArray), (⟨#[127]⟩ : ByteArray), (⟨#[0]⟩ : ByteArray)] : List ByteArray)) (inner := [.string (⟨#[27, 91, 65]⟩ : ByteArray), .string (⟨#[27, 91, 66]⟩ : ByteArray), .string (⟨#[27, 91, 67]⟩ : ByteArray), .string (⟨#[27, 91, 68]⟩ : ByteArray), .string (⟨#[27, 91, 72]⟩ : ByteArray), .string (⟨#[27, 91, 70]⟩ : ByteArray), .string (⟨#[27, 91, 50, 126]⟩ : ByteArray), .string (⟨#[27, 91, 51, 126]⟩ : ByteArray), .string (⟨#[27, 91, 53, 126]⟩ : ByteArray), .string (⟨#[27, 91, 54, 126]⟩ : ByteArray), .string (⟨#[27, 79, 80]⟩ : ByteArray), .string (⟨#[27, 79, 81]⟩ : ByteArray), .string (⟨#[27, 79, 82]⟩ : ByteArray), .string (⟨#[27, 79, 83]⟩ : ByteArray), .string (⟨#[13]⟩ : ByteArray), .string (⟨#[9]⟩ : ByteArray), .string (⟨#[127]⟩ : ByteArray), .string (⟨#[0]⟩ : ByteArray)]) (ok := fun _ => True) (okp := fun _ => True) ?hr ?hp (fun _ hk => hk) trivial (Below.refl _ _) (Nat.le_refl _) (by simp) ?_; (case hd => rfl); (case hg => rfl); (case hr => first | (go_simp; done) | (go_simp; rfl)); (case hp => exact (Reps.one (show Kd.M Kd.string _ _ _ (⟨#[27, 91, 65]⟩ : ByteArray) [.string (⟨#[27, 91, 65]⟩ : ByteArray)] from rfl) (Reps.one (show Kd.M Kd.string _ _ _ (⟨#[27, 91, 66]⟩ : ByteArray) [.string (⟨#[27, 91, 66]⟩ : ByteArray)] from rfl) (Reps.one (show Kd.M Kd.string _ _ _ (⟨#[27, 91, 67]⟩ : ByteArray) [.string (⟨#[27, 91, 67]⟩ : ByteArray)] from rfl) (Reps.one (show Kd.M Kd.string _ _ _ (⟨#[27, 91, 68]⟩ : ByteArray) [.string (⟨#[27, 91, 68]⟩ : ByteArray)] from rfl) (Reps.one (show Kd.M Kd.string _ _ _ (⟨#[27, 91, 72]⟩ : ByteArray) [.string (⟨#[27, 91, 72]⟩ : ByteArray)] from rfl) (Reps.one (show Kd.M Kd.string _ _ _ (⟨#[27, 91, 70]⟩ : ByteArray) [.string (⟨#[27, 91, 70]⟩ : ByteArray)] from rfl) (Reps.one (show Kd.M Kd.string _ _ _ (⟨#[27, 91, 50, 126]⟩ : ByteArray) [.string (⟨#[27, 91, 50, 126]⟩ : ByteArray)] from rfl) (Reps.one (show Kd.M Kd.string _ _ _ (⟨#[27, 91, 51, 126]⟩ : ByteArray) [.string (⟨#[27, 91, 51, 126]⟩ : ByteArray)] from rfl) (Reps.one (show Kd.M Kd.string _ _ _ (⟨#[27, 91, 53, 126]⟩ : ByteArray) [.string (⟨#[27, 91, 53, 126]⟩ : ByteArray)] from rfl) (Reps.one (show Kd.M Kd.string _ _ _ (⟨#[27, 91, 54, 126]⟩ : ByteArray) [.string (⟨#[27, 91, 54, 126]⟩ : ByteArray)] from rfl) (Reps.one (show Kd.M Kd.string _ _ _ (⟨#[27, 79, 80]⟩ : ByteArray) [.string (⟨#[27, 79, 80]⟩ : ByteArray)] from rfl) (Reps.one (show Kd.M Kd.string _ _ _ (⟨#[27, 79, 81]⟩ : ByteArray) [.string (⟨#[27, 79, 81]⟩ : ByteArray)] from rfl) (Reps.one (show Kd.M Kd.string _ _ _ (⟨#[27, 79, 82]⟩ : ByteArray) [.string (⟨#[27, 79, 82]⟩ : ByteArray)] from rfl) (Reps.one (show Kd.M Kd.string _ _ _ (⟨#[27, 79, 83]⟩ : ByteArray) [.string (⟨#[27, 79, 83]⟩ : ByteArray)] from rfl) (Reps.one (show Kd.M Kd.string _ _ _ (⟨#[13]⟩ : ByteArray) [.string (⟨#[13]⟩ : ByteArray)] from rfl) (Reps.one (show Kd.M Kd.string _ _ _ (⟨#[9]⟩ : ByteArray) [.string (⟨#[9]⟩ : ByteArray)] from rfl) (Reps.one (show Kd.M Kd.string _ _ _ (⟨#[127]⟩ : ByteArray) [.string (⟨#[127]⟩ : ByteArray)] from rfl) (Reps.one (show Kd.M Kd.string _ _ _ (⟨#[0]⟩ : ByteArray) [.string (⟨#[0]⟩ : ByteArray)] from rfl) (Reps.none _ _)))))))))))))))))))); intro v167 w3 ho4 hb hg_ hnew_; clear hg_ hnew_; (first | rw [← Ny166.out] at ho4 | (simp only [Int.reduceToNat] at ho4; rw [← Ny166.out] at ho4)); have n0_ := Aside0.mk (Kd.R_lower ho4 (below_size (by repeat (first | (with_reducible first | exact HB.out | apply below_alloc | apply pw_below_drewN | apply below_drew1) | exact HB.out)))); have n1_ := Aside0.mk (below_step (by repeat (first | (with_reducible first | exact HB.out | apply below_alloc | apply pw_below_drewN | apply below_drew1) | exact HB.out)) hb); clear HB; have HO168 := n0_; have HB := n1_; clear n0_ n1_; clear hb ho4) | ((with_reducible refine gate_callee (f := 31) rfl ?_); refine goesL_ (some 8) rfl rfl Tryd.func31 (by kernel_rfl) rfl #[] rfl (by (try simp only [List.map_toArray, List.map_cons, List.map_nil]); first | done | rfl | (simp only [List.length_drop, List.length_take]; rfl)) ?_; (with_reducible refine (backseatref03_Names.calls k  t169 _ A2.out).mono ?_); rintro e w5 ⟨v170, rfl, ho0, hb⟩; refine ⟨_, rfl, ?_⟩; have n0_ := Aside0.mk (Kd.R_elder' (by (with_reducible repeat (first | apply Kd.R_alloc | apply Kd.R_drewN | apply Kd.R_drew)); exact HO168.out) (Kd.R_base ho0) hb); have n1_ := Aside0.mk (Kd.R_lower (Kd.R_new' ho0 (Kd.R_lt (by (with_reducible repeat (first | apply Kd.R_alloc | apply Kd.R_drewN | apply Kd.R_drew)); exact HO168.out))) (below_size (by repeat (first | (with_reducible first | exact HB.out | apply below_alloc | apply pw_below_drewN | apply below_drew1) | exact HB.out)))); have n2_ := Aside0.mk (below_step (by repeat (first | (with_reducible first | exact HB.out | apply below_alloc | apply pw_below_drewN | apply below_drew1) | exact HB.out)) hb); clear HO168; clear HB; have HO168 := n0_; have HO171 := n1_; have HB := n2_; clear n0_ n1_ n2_; (try clear hb); (try clear hb2); (try clear hk); (try clear hi); (try clear ho0); obtain ⟨Ao6, co6, eo6⟩ := Kd.R_slice HO171.out; subst eo6))
  go_loopg [10] k (fun kq v10 w' => ∃ (x10_1 : Int), v10 = .int .i64 x10_1 ∧ Aside0 (backseatref03_Named.l0 kq a0 y166 t169 (t169.length : Int) x10_1 = some r) ∧ Aside0 (kq ≤ k) ∧ Aside0 (Kd.R Kd.string 9 w' w.heap.size (fun k_ => some k_ ≠ ((.slice Ao6 t169.length co6) : Value).ownBlock) v167 y166) ∧ Aside0 (Kd.R Kd.string 9 w' w.heap.size (fun k_ => some k_ ≠ (v167 : Value).ownBlock) (.slice Ao6 t169.length co6) t169) ∧ Aside0 (Below w.heap.size w w'))
  case atStart => exact ⟨(0), (by first | rfl | (simp; done) | (simp [*]; done)), H', ⟨Nat.le_refl _⟩, ⟨by (with_reducible repeat (first | apply Kd.R_alloc | apply Kd.R_drewN | apply Kd.R_drew)); exact Kd.R_mono HO168.out (fun _ hk => hk.2)⟩, ⟨by (with_reducible repeat (first | apply Kd.R_alloc | apply Kd.R_drewN | apply Kd.R_drew)); exact Kd.R_mono HO171.out (fun _ hk => hk.2)⟩, ⟨by repeat (first | (with_reducible first | exact HB.out | apply below_alloc | apply pw_below_drewN | apply below_drew1) | exact HB.out)⟩⟩
  case round =>
    clear H'
    try clear c1
    try clear p2
    try clear c3
    obtain ⟨x10_1, rfl, HA, HK1, HO_3, HO_8, HB⟩ := hrel
    cases gk with
    | zero => exact absurd HA.out (by simp [backseatref03_Named.l0])
    | succ k1 =>
      have H := HA.out
      clear HA
      simp only [backseatref03_Named.l0] at H
      by_cases c7 : x10_1 < (t169.length : Int)
      · rw [if_pos c7] at H
        have c7b0 : decide (x10_1 < (t169.length : Int)) = true := decide_eq_true c7
        clear c7
        by_cases c8 : 0 ≤ x10_1
        · rw [if_pos c8] at H
          have c8b0 : decide (0 ≤ x10_1) = true := decide_eq_true c8
          clear c8
          by_cases c9 : x10_1 < (t169.length : Int)
          · rw [if_pos c9] at H
            have c9b0 : decide (x10_1 < (t169.length : Int)) = true := decide_eq_true c9
            clear c9
            by_cases c10 : (rdOf ByteArray.empty t169 x10_1).toList = a0.toList
            · rw [if_pos c10] at H
              have c10b0 : ((rdOf ByteArray.empty t169 x10_1).toList == a0.toList) = true := beq_iff_eq.mpr c10
              have c10b1 : ((rdOf ByteArray.empty t169 x10_1).toList != a0.toList) = false := bne_eq_false_iff_eq.mpr c10
              clear c10
              by_cases c11 : x10_1 < (y166.length : Int)
              · rw [if_pos c11] at H
                have c11b0 : decide (x10_1 < (y166.length : Int)) = true := decide_eq_true c11
                clear c11
                obtain rfl := Option.some.inj H
                have p172 : 0 ≤ (x10_1 : Int) := of_decide_eq_true (by first | (with_reducible assumption) | assumption)
                have q172 : x10_1 < (t169.length : Int) := of_decide_eq_true (by first | (with_reducible assumption) | assumption)
                obtain ⟨ad172, e172, hx172_0⟩ := Kd.at_string (Kd.R_reads' HO_8.out).2.2 x10_1 p172 q172
                cases e172
                replace p172 := eq_true p172
                replace q172 := eq_true q172
                obtain ⟨Ao12, co12, eo12⟩ := Kd.R_slice HO_3.out
                subst eo12
                have p173 : 0 ≤ (x10_1 : Int) := of_decide_eq_true (by first | (with_reducible assumption) | assumption)
                have q173 : x10_1 < (y166.length : Int) := of_decide_eq_true (by first | (with_reducible assumption) | assumption)
                obtain ⟨ad173, e173, hx173_0⟩ := Kd.at_string (Kd.R_reads' HO_3.out).2.2 x10_1 p173 q173
                cases e173
                replace p173 := eq_true p173
                replace q173 := eq_true q173
                go_wp2
                go_ret
                exact ⟨by first | rfl | (simp [errW_none, errW_some] <;> rfl) | (simp [*, errW_none, errW_some] <;> rfl), by repeat (first | (with_reducible first | exact HB.out | apply below_alloc | apply pw_below_drewN | apply below_drew1) | exact HB.out)⟩
              · rw [if_neg c11] at H
                have c11b0 : decide (x10_1 < (y166.length : Int)) = false := decide_eq_false c11
                clear c11
                by_cases c13 : 2 < (a0.size : Int)
                · rw [if_pos c13] at H
                  have c13b0 : decide (2 < (a0.size : Int)) = true := decide_eq_true c13
                  have c13b1 : decide (2 < a0.size) = true := decide_eq_true (by omega)
                  clear c13
                  by_cases c15 : (bt a0 2) ≥ 97
                  · rw [if_pos c15] at H
                    have c15b0 : decide (97 ≤ (bt a0 2)) = true := decide_eq_true c15
                    clear c15
                    obtain ⟨y174, hy174⟩ : ∃ y_ : List Int, y_ = (([((((bt a0 2) - 97) % 256) + 1) % 256] : List Int)) := ⟨_, rfl⟩
                    replace H : (some (strOfNums y174)) = some r := by first | (rw [hy174]; with_reducible exact H) | (have H2_ := (Option.bind_some _ _).symm.trans H; rw [hy174]; with_reducible exact H2_) | (have H2_ := (Option.bind_some _ _).symm.trans H; with_reducible exact H2_) | with_reducible exact H | (rw [hy174]; exact H) | exact H
                    have Ny174 := Aside0.mk hy174
                    clear hy174
                    obtain rfl := Option.some.inj H
                    have p172 : 0 ≤ (x10_1 : Int) := of_decide_eq_true (by first | (with_reducible assumption) | assumption)
                    have q172 : x10_1 < (t169.length : Int) := of_decide_eq_true (by first | (with_reducible assumption) | assumption)
                    obtain ⟨ad172, e172, hx172_0⟩ := Kd.at_string (Kd.R_reads' HO_8.out).2.2 x10_1 p172 q172
                    cases e172
                    replace p172 := eq_true p172
                    replace q172 := eq_true q172
                    obtain ⟨Ao16, co16, eo16⟩ := Kd.R_slice HO_3.out
                    subst eo16
                    have p14 : 0 ≤ (2 : Int) := (by omega)
                    have q14 : 2 < a0.size := (by have : (2 : Int) < (a0.size : Int) := of_decide_eq_true (by first | (with_reducible assumption) | assumption); omega)
                    have hx14 : ∀ h : 2 < a0.size, ((a0[2]'h).toNat : Int) = bt a0 2 := bt_at a0 2
                    clear p14
                    have qi14 : (2 < (a0.size : Int)) = True := eq_true (of_decide_eq_true (by first | (with_reducible assumption) | assumption))
                    replace q14 := eq_true q14
                    go_wp2_with (first | ((with_reducible refine gate_dst (N := 33) rfl ?_); refine Kd.R_lit (Kd.int .u8) _ 5 ?hg (N := 33) ?hd (xs := ([((((bt a0 2) - 97) % 256) + 1) % 256] : List Int)) (inner := [.int .u8 (((((bt a0 2) - 97) % 256) + 1) % 256)]) (ok := fun _ => True) (okp := fun _ => True) ?hr ?hp (fun _ hk => hk) trivial (Below.refl _ _) (Nat.le_refl _) (by simp) ?_; (case hd => rfl); (case hg => rfl); (case hr => first | (go_simp; done) | (go_simp; rfl)); (case hp => exact (Reps.one (show Kd.M (Kd.int .u8) _ _ _ (((((bt a0 2) - 97) % 256) + 1) % 256) [.int .u8 (((((bt a0 2) - 97) % 256) + 1) % 256)] from rfl) (Reps.none _ _))); intro v175 w17 ho18 hb hg_ hnew_; clear hg_ hnew_; (first | rw [← Ny174.out] at ho18 | (simp only [Int.reduceToNat] at ho18; rw [← Ny174.out] at ho18)); have n0_ := Aside0.mk (Kd.R_below (by (with_reducible repeat (first | apply Kd.R_alloc | apply Kd.R_drewN | apply Kd.R_drew)); exact HO_3.out) hb); have n1_ := Aside0.mk (Kd.R_below (by (with_reducible repeat (first | apply Kd.R_alloc | apply Kd.R_drewN | apply Kd.R_drew)); exact HO_8.out) hb); have n2_ := Aside0.mk (Kd.R_lower ho18 (below_size (by repeat (first | (with_reducible first | exact HB.out | apply below_alloc | apply pw_below_drewN | apply below_drew1) | exact HB.out)))); have n3_ := Aside0.mk (below_step (by repeat (first | (with_reducible first | exact HB.out | apply below_alloc | apply pw_below_drewN | apply below_drew1) | exact HB.out)) hb); clear HO_3; clear HO_8; clear HB; have HO_3 := n0_; have HO_8 := n1_; have HO176 := n2_; have HB := n3_; clear n0_ n1_ n2_ n3_; clear hb ho18; have hcv19 := own_string (P := Tryd.prog) Tryd.underlying66 Tryd.underlying5 Tryd.underlying9 (Kd.own_of_R HO176.out)))
                    go_ret
                    exact ⟨by first | rfl | (simp [errW_none, errW_some] <;> rfl) | (simp [*, errW_none, errW_some] <;> rfl), by repeat (first | (with_reducible first | exact HB.out | apply below_alloc | apply pw_below_drewN | apply below_drew1) | exact HB.out)⟩
                  · rw [if_neg c15] at H
                    have c15b0 : decide (97 ≤ (bt a0 2)) = false := decide_eq_false c15
                    clear c15
                    obtain ⟨y177, hy177⟩ : ∃ y_ : List Int, y_ = (([((((bt a0 2) - 52) % 256) + 28) % 256] : List Int)) := ⟨_, rfl⟩
                    replace H : (some (strOfNums y177)) = some r := by first | (rw [hy177]; with_reducible exact H) | (have H2_ := (Option.bind_some _ _).symm.trans H; rw [hy177]; with_reducible exact H2_) | (have H2_ := (Option.bind_some _ _).symm.trans H; with_reducible exact H2_) | with_reducible exact H | (rw [hy177]; exact H) | exact H
                    have Ny177 := Aside0.mk hy177
                    clear hy177
                    obtain rfl := Option.some.inj H
                    have p172 : 0 ≤ (x10_1 : Int) := of_decide_eq_true (by first | (with_reducible assumption) | assumption)
                    have q172 : x10_1 < (t169.length : Int) := of_decide_eq_true (by first | (with_reducible assumption) | assumption)
                    obtain ⟨ad172, e172, hx172_0⟩ := Kd.at_string (Kd.R_reads' HO_8.out).2.2 x10_1 p172 q172
                    cases e172
                    replace p172 := eq_true p172
                    replace q172 := eq_true q172
                    obtain ⟨Ao20, co20, eo20⟩ := Kd.R_slice HO_3.out
                    subst eo20
                    have p14 : 0 ≤ (2 : Int) := (by omega)
                    have q14 : 2 < a0.size := (by have : (2 : Int) < (a0.size : Int) := of_decide_eq_true (by first | (with_reducible assumption) | assumption); omega)
                    have hx14 : ∀ h : 2 < a0.size, ((a0[2]'h).toNat : Int) = bt a0 2 := bt_at a0 2
                    clear p14
                    have qi14 : (2 < (a0.size : Int)) = True := eq_true (of_decide_eq_true (by first | (with_reducible assumption) | assumption))
                    replace q14 := eq_true q14
                    go_wp2_with (first | ((with_reducible refine gate_dst (N := 38) rfl ?_); refine Kd.R_lit (Kd.int .u8) _ 5 ?hg (N := 38) ?hd (xs := ([((((bt a0 2) - 52) % 256) + 28) % 256] : List Int)) (inner := [.int .u8 (((((bt a0 2) - 52) % 256) + 28) % 256)]) (ok := fun _ => True) (okp := fun _ => True) ?hr ?hp (fun _ hk => hk) trivial (Below.refl _ _) (Nat.le_refl _) (by simp) ?_; (case hd => rfl); (case hg => rfl); (case hr => first | (go_simp; done) | (go_simp; rfl)); (case hp => exact (Reps.one (show Kd.M (Kd.int .u8) _ _ _ (((((bt a0 2) - 52) % 256) + 28) % 256) [.int .u8 (((((bt a0 2) - 52) % 256) + 28) % 256)] from rfl) (Reps.none _ _))); intro v178 w21 ho22 hb hg_ hnew_; clear hg_ hnew_; (first | rw [← Ny177.out] at ho22 | (simp only [Int.reduceToNat] at ho22; rw [← Ny177.out] at ho22)); have n0_ := Aside0.mk (Kd.R_below (by (with_reducible repeat (first | apply Kd.R_alloc | apply Kd.R_drewN | apply Kd.R_drew)); exact HO_3.out) hb); have n1_ := Aside0.mk (Kd.R_below (by (with_reducible repeat (first | apply Kd.R_alloc | apply Kd.R_drewN | apply Kd.R_drew)); exact HO_8.out) hb); have n2_ := Aside0.mk (Kd.R_lower ho22 (below_size (by repeat (first | (with_reducible first | exact HB.out | apply below_alloc | apply pw_below_drewN | apply below_drew1) | exact HB.out)))); have n3_ := Aside0.mk (below_step (by repeat (first | (with_reducible first | exact HB.out | apply below_alloc | apply pw_below_drewN | apply below_drew1) | exact HB.out)) hb); clear HO_3; clear HO_8; clear HB; have HO_3 := n0_; have HO_8 := n1_; have HO179 := n2_; have HB := n3_; clear n0_ n1_ n2_ n3_; clear hb ho22; have hcv23 := own_string (P := Tryd.prog) Tryd.underlying66 Tryd.underlying5 Tryd.underlying9 (Kd.own_of_R HO179.out)))
                    go_ret
                    exact ⟨by first | rfl | (simp [errW_none, errW_some] <;> rfl) | (simp [*, errW_none, errW_some] <;> rfl), by repeat (first | (with_reducible first | exact HB.out | apply below_alloc | apply pw_below_drewN | apply below_drew1) | exact HB.out)⟩
                · rw [if_neg c13] at H
                  exact absurd H (by simp)
            · rw [if_neg c10] at H
              have c10b0 : ((rdOf ByteArray.empty t169 x10_1).toList == a0.toList) = false := beq_eq_false_iff_ne.mpr c10
              have c10b1 : ((rdOf ByteArray.empty t169 x10_1).toList != a0.toList) = true := bne_iff_ne.mpr c10
              have H' := Aside0.mk H
              clear H
              have p172 : 0 ≤ (x10_1 : Int) := of_decide_eq_true (by first | (with_reducible assumption) | assumption)
              have q172 : x10_1 < (t169.length : Int) := of_decide_eq_true (by first | (with_reducible assumption) | assumption)
              obtain ⟨ad172, e172, hx172_0⟩ := Kd.at_string (Kd.R_reads' HO_8.out).2.2 x10_1 p172 q172
              cases e172
              replace p172 := eq_true p172
              replace q172 := eq_true q172
              go_wp2
              go_roundg k1
              case measure => have := HK1.out; omega
              case rel => exact ⟨(wrap64 (x10_1 + 1)), (by first | rfl | (simp; done) | (simp [*]; done)), H', ⟨by have := HK1.out; omega⟩, ⟨by (with_reducible repeat (first | apply Kd.R_alloc | apply Kd.R_drewN | apply Kd.R_drew)); exact HO_3.out⟩, ⟨by (with_reducible repeat (first | apply Kd.R_alloc | apply Kd.R_drewN | apply Kd.R_drew)); exact HO_8.out⟩, ⟨by repeat (first | (with_reducible first | exact HB.out | apply below_alloc | apply pw_below_drewN | apply below_drew1) | exact HB.out)⟩⟩
          · rw [if_neg c9] at H
            exact absurd H (by simp)
        · rw [if_neg c8] at H
          exact absurd H (by simp)
      · rw [if_neg c7] at H
        have c7b0 : decide (x10_1 < (t169.length : Int)) = false := decide_eq_false c7
        clear c7
        obtain rfl := Option.some.inj H
        go_wp2
        go_ret
        exact ⟨by first | rfl | (simp [errW_none, errW_some] <;> rfl) | (simp [*, errW_none, errW_some] <;> rfl), by repeat (first | (with_reducible first | exact HB.out | apply below_alloc | apply pw_below_drewN | apply below_drew1) | exact HB.out)⟩
def backseatref03_prefix.f (a0 : ByteArray) (a1 : ByteArray) : Option (Bool) := if (a0.size : Int) ≥ (a1.size : Int) then (if 0 ≤ (a1.size : Int) then (if (a1.size : Int) ≤ (a0.size : Int) then (some ((a0.extract 0 ((a1.size : Int) : Int).toNat).toList == a1.toList)) else (none)) else (none)) else (some false)
set_option maxHeartbeats 8000000 in
set_option maxRecDepth 100000 in
theorem backseatref03_prefix.calls (a0 : ByteArray) (a1 : ByteArray) (r : Bool) (w : World) (h : backseatref03_prefix.f a0 a1 = some r) :
    Calls Tryd.prog 19 #[.string a0, .string a1] w fun e w' => e = .returned (.bool r) ∧ Drawn0 w w' := by
  have H : (if (a0.size : Int) ≥ (a1.size : Int) then (if 0 ≤ (a1.size : Int) then (if (a1.size : Int) ≤ (a0.size : Int) then (some ((a0.extract 0 ((a1.size : Int) : Int).toNat).toList == a1.toList)) else (none)) else (none)) else (some false)) = some r := h
  clear h
  by_cases c3 : (a0.size : Int) ≥ (a1.size : Int)
  · rw [if_pos c3] at H
    have c3b0 : decide ((a1.size : Int) ≤ (a0.size : Int)) = true := decide_eq_true c3
    have c3b1 : decide (a1.size ≤ a0.size) = true := decide_eq_true (Int.ofNat_le.mp c3)
    clear c3
    by_cases c4 : 0 ≤ (a1.size : Int)
    · rw [if_pos c4] at H
      have c4b0 := eq_true c4
      have c4b1 : decide (0 ≤ (a1.size : Int)) = true := decide_eq_true c4
      clear c4
      by_cases c5 : (a1.size : Int) ≤ (a0.size : Int)
      · rw [if_pos c5] at H
        have c5b0 := eq_true c5
        have c5b1 : decide ((a1.size : Int) ≤ (a0.size : Int)) = true := decide_eq_true c5
        clear c5
        obtain rfl := Option.some.inj H
        go_enter Tryd.func19, Tryd.ntmps19
        go_wp2
        go_ret
        exact ⟨by first | rfl | (simp; done) | (simp [*]; done), by repeat (first | exact Drawn0.refl _ | apply Drawn0.step)⟩
      · rw [if_neg c5] at H
        exact absurd H (by simp)
    · rw [if_neg c4] at H
      exact absurd H (by simp)
  · rw [if_neg c3] at H
    have c3b0 : decide ((a1.size : Int) ≤ (a0.size : Int)) = false := decide_eq_false c3
    have c3b1 : decide (a1.size ≤ a0.size) = false := decide_eq_false (fun h => c3 (Int.ofNat_le.mpr h))
    clear c3
    obtain rfl := Option.some.inj H
    go_enter Tryd.func19, Tryd.ntmps19
    go_wp2
    go_ret
    exact ⟨by first | rfl | (simp; done) | (simp [*]; done), by repeat (first | exact Drawn0.refl _ | apply Drawn0.step)⟩
def backseatref03_named.l0 : Nat → ByteArray → Bool → Bool → List ByteArray → Int → Int → Option (ByteArray × Int × Bool)
  | 0, _, _, _, _, _, _ => none
  | k + 1, x0, x1, x5, x9, x10, x11 => if x11 < x10 then (if 0 ≤ x11 then (if x11 < (x9.length : Int) then ((backseatref03_Named.f k (rdOf ByteArray.empty x9 x11)).bind fun t185 => ((backseatref03_prefix.f x0 t185).bind fun t186 => (if t186 = true then (some (rdOf ByteArray.empty x9 x11, (t185.size : Int), true)) else (if x5 = true then (backseatref03_named.l0 k x0 x1 true x9 x10 (wrap64 (x11 + 1))) else ((backseatref03_prefix.f t185 x0).bind fun t187 => (backseatref03_named.l0 k x0 x1 t187 x9 x10 (wrap64 (x11 + 1)))))))) else (none)) else (none)) else (if x5 = true then (some ((⟨#[]⟩ : ByteArray), 0, !x1)) else (some ((⟨#[]⟩ : ByteArray), 0, false)))
def backseatref03_named.f (k : Nat) (a0 : ByteArray) (a1 : Bool) : Option (ByteArray × Int × Bool) := (backseatref03_Names.f k).bind fun t181 => (backseatref03_named.l0 k a0 a1 false t181 (t181.length : Int) 0)
theorem backseatref03_named.mono_l : ∀ k, (∀ y0 y1 y2 y3 y4 y5, LeO (backseatref03_named.l0 k y0 y1 y2 y3 y4 y5) (backseatref03_named.l0 (k + 1) y0 y1 y2 y3 y4 y5))
  | 0 => fun _ _ _ _ _ _ r h => by simp [backseatref03_named.l0] at h
  | k + 1 => by
    have ih0 := backseatref03_named.mono_l k
    · intro y0 y1 y2 y3 y4 y5
      unfold backseatref03_named.l0
      repeat' first
      | (with_reducible exact ih0 _ _ _ _ _ _)
      | (with_reducible exact backseatref03_Named.mono _ _)
      | (with_reducible exact backseatref03_Names.mono _)
      | (with_reducible exact LeO.refl _)
      | (with_reducible exact LeO.none _)
      | (with_reducible refine LeO.ite ?_ ?_)
      | (with_reducible refine LeO.bind ?_ (fun _ => ?_))
      | exact ih0 _ _ _ _ _ _
      | exact backseatref03_Named.mono _ _
      | exact backseatref03_Names.mono _
      | exact LeO.none _
      | refine LeO.ite ?_ ?_
      | refine LeO.bind ?_ (fun _ => ?_)
theorem backseatref03_named.mono : ∀ a0 a1 k, LeO (backseatref03_named.f k a0 a1) (backseatref03_named.f (k + 1) a0 a1) := by
  intro a0 a1 k
  have ih0 := backseatref03_named.mono_l k
  unfold backseatref03_named.f
  repeat' first
      | (with_reducible exact ih0 _ _ _ _ _ _)
      | (with_reducible exact backseatref03_Named.mono _ _)
      | (with_reducible exact backseatref03_Names.mono _)
      | (with_reducible exact LeO.refl _)
      | (with_reducible exact LeO.none _)
      | (with_reducible refine LeO.ite ?_ ?_)
      | (with_reducible refine LeO.bind ?_ (fun _ => ?_))
      | exact ih0 _ _ _ _ _ _
      | exact backseatref03_Named.mono _ _
      | exact backseatref03_Names.mono _
      | exact LeO.none _
      | refine LeO.ite ?_ ?_
      | refine LeO.bind ?_ (fun _ => ?_)
set_option maxHeartbeats 8000000 in
set_option maxRecDepth 100000 in
theorem backseatref03_named.calls (k : Nat) (a0 : ByteArray) (a1 : Bool) (r1 : ByteArray) (r2 : Int) (r3 : Bool) (w : World) (h : backseatref03_named.f k a0 a1 = some (r1, r2, r3)) :
    Calls Tryd.prog 27 #[.string a0, .bool a1] w fun e w' => e = .returned (.agg #[.string r1, .int .i64 r2, .bool r3]) ∧ Below w.heap.size w w' := by
  have hu69 := Tryd.underlying69
  have hu59 := Tryd.underlying59
  have HB := Aside0.mk (Below.refl w.heap.size w)
  have H : ((backseatref03_Names.f k).bind fun t181 => (backseatref03_named.l0 k a0 a1 false t181 (t181.length : Int) 0)) = some (r1, r2, r3) := h
  clear h
  replace H := Option.bind_eq_some_iff.mp H
  obtain ⟨t181, A30, H⟩ := H
  replace H : (backseatref03_named.l0 k a0 a1 false t181 (t181.length : Int) 0) = some (r1, r2, r3) := H
  have A3 := Aside0.mk A30
  clear A30
  have H' := Aside0.mk H
  clear H
  go_enter Tryd.func27, Tryd.ntmps27
  go_wp2_with (first | ((with_reducible refine gate_dst (N := 4) rfl ?_); refine box_event ?hg (N := 4) ?hd (cs := #[.string (⟨#[]⟩ : ByteArray), .int .i64 0, .bool false]) (t := 69) ?hr ?_; (case hd => rfl); (case hg => rfl); (case hr => first | (go_simp; done) | (go_simp; rfl)); intro gb180 hg w4 hbox hb; have n0_ := Aside0.mk (below_step (by repeat (first | (with_reducible first | exact HB.out | apply below_alloc | apply pw_below_drewN | apply below_drew1) | exact HB.out)) hb); have n1_ := Aside0.mk (hbox); have n2_ := Aside0.mk ((by rw [hg]; exact (below_size (by repeat (first | (with_reducible first | exact HB.out | apply below_alloc | apply pw_below_drewN | apply below_drew1) | exact HB.out))) : w.heap.size ≤ gb180)); have n3_ := Aside0.mk ((by rw [hg]; exact (below_size (by repeat (first | (with_reducible first | exact HB.out | apply below_alloc | apply pw_below_drewN | apply below_drew1) | exact HB.out))) : w.heap.size ≤ gb180)); clear HB; have HB := n0_; have BK180 := n1_; have GW180 := n2_; have GE180 := n3_; clear n0_ n1_ n2_ n3_; clear hb hbox hg) | ((with_reducible refine gate_callee (f := 31) rfl ?_); refine goesL_ (some 9) rfl rfl Tryd.func31 (by kernel_rfl) rfl #[] rfl (by (try simp only [List.map_toArray, List.map_cons, List.map_nil]); first | done | rfl | (simp only [List.length_drop, List.length_take]; rfl)) ?_; (with_reducible refine (backseatref03_Names.calls k  t181 _ A3.out).mono ?_); rintro e w5 ⟨v182, rfl, ho0, hb⟩; refine ⟨_, rfl, ?_⟩; have n0_ := Aside0.mk (Kd.R_lower ho0 (below_size (by repeat (first | (with_reducible first | exact HB.out | apply below_alloc | apply pw_below_drewN | apply below_drew1 | refine below_set ?_ GE180.out) | exact HB.out)))); have n1_ := Aside0.mk (blk_below (g := gb180) (o := .cells #[.string (⟨#[]⟩ : ByteArray), .int .i64 0, .bool false] 69 (0, 0)) (by (with_reducible repeat (first | refine blk_drewN ?_ _ | refine blk_drew ?_ | refine blk_alloc ?_ _)); exact BK180.out) hb); have n2_ := Aside0.mk (below_step (by repeat (first | (with_reducible first | exact HB.out | apply below_alloc | apply pw_below_drewN | apply below_drew1 | refine below_set ?_ GE180.out) | exact HB.out)) hb); clear BK180; clear HB; have HO183 := n0_; have BK180 := n1_; have HB := n2_; clear n0_ n1_ n2_; (try clear hb); (try clear hb2); (try clear hk); (try clear hi); (try clear ho0); obtain ⟨Ao6, co6, eo6⟩ := Kd.R_slice HO183.out; subst eo6))
  go_loopg [5, 11] k (fun kq v5 v11 w' => ∃ (x5_1 : Bool) (x11_1 : Int) (x181000_1 : ByteArray) (x181001_1 : Int) (x181002_1 : Bool), v5 = .bool x5_1 ∧ v11 = .int .i64 x11_1 ∧ Aside0 (backseatref03_named.l0 kq a0 a1 x5_1 t181 (t181.length : Int) x11_1 = some (r1, r2, r3)) ∧ Aside0 (kq ≤ k) ∧ Aside0 (Kd.R Kd.string 9 w' w.heap.size (fun _ => True) (.slice Ao6 t181.length co6) t181) ∧ Aside0 (w'.heap[gb180]? = some (.cells #[.string x181000_1, .int .i64 x181001_1, .bool x181002_1] 69 (0, 0))) ∧ Aside0 (Below w.heap.size w w'))
  case atStart => exact ⟨(false), (0), ((⟨#[]⟩ : ByteArray)), (0), (false), (by first | rfl | (simp; done) | (simp [*]; done)), (by first | rfl | (simp; done) | (simp [*]; done)), H', ⟨Nat.le_refl _⟩, ⟨by (with_reducible repeat (first | apply Kd.R_alloc | apply Kd.R_drewN | apply Kd.R_drew)); exact HO183.out⟩, ⟨by (with_reducible repeat (first | refine blk_drewN ?_ _ | refine blk_drew ?_ | refine blk_alloc ?_ _)); exact BK180.out⟩, ⟨by repeat (first | (with_reducible first | exact HB.out | apply below_alloc | apply pw_below_drewN | apply below_drew1 | refine below_set ?_ GE180.out) | exact HB.out)⟩⟩
  case round =>
    clear H'
    try clear c2
    try clear p2
    try clear c3
    obtain ⟨x5_1, x11_1, x181000_1, x181001_1, x181002_1, rfl, rfl, HA, HK1, HO_9, BK180, HB⟩ := hrel
    cases gk with
    | zero => exact absurd HA.out (by simp [backseatref03_named.l0])
    | succ k1 =>
      have H := HA.out
      clear HA
      simp only [backseatref03_named.l0] at H
      by_cases c7 : x11_1 < (t181.length : Int)
      · rw [if_pos c7] at H
        have c7b0 : decide (x11_1 < (t181.length : Int)) = true := decide_eq_true c7
        clear c7
        by_cases c8 : 0 ≤ x11_1
        · rw [if_pos c8] at H
          have c8b0 : decide (0 ≤ x11_1) = true := decide_eq_true c8
          clear c8
          by_cases c9 : x11_1 < (t181.length : Int)
          · rw [if_pos c9] at H
            have c9b0 : decide (x11_1 < (t181.length : Int)) = true := decide_eq_true c9
            clear c9
            replace H := Option.bind_eq_some_iff.mp H
            obtain ⟨t185, A100, H⟩ := H
            replace H : ((backseatref03_prefix.f a0 t185).bind fun t186 => (if t186 = true then (some (rdOf ByteArray.empty t181 x11_1, (t185.size : Int), true)) else (if x5_1 = true then (backseatref03_named.l0 k1 a0 a1 true t181 (t181.length : Int) (wrap64 (x11_1 + 1))) else ((backseatref03_prefix.f t185 a0).bind fun t187 => (backseatref03_named.l0 k1 a0 a1 t187 t181 (t181.length : Int) (wrap64 (x11_1 + 1))))))) = some (r1, r2, r3) := H
            have A10 := Aside0.mk A100
            clear A100
            replace H := Option.bind_eq_some_iff.mp H
            obtain ⟨t186, A110, H⟩ := H
            replace H : (if t186 = true then (some (rdOf ByteArray.empty t181 x11_1, (t185.size : Int), true)) else (if x5_1 = true then (backseatref03_named.l0 k1 a0 a1 true t181 (t181.length : Int) (wrap64 (x11_1 + 1))) else ((backseatref03_prefix.f t185 a0).bind fun t187 => (backseatref03_named.l0 k1 a0 a1 t187 t181 (t181.length : Int) (wrap64 (x11_1 + 1)))))) = some (r1, r2, r3) := H
            have A11 := Aside0.mk A110
            clear A110
            by_cases c12 : t186 = true
            · subst c12
              have H1 : (some (rdOf ByteArray.empty t181 x11_1, (t185.size : Int), true)) = some (r1, r2, r3) := by rw [if_pos rfl] at H; exact H
              clear H
              have H := H1
              clear H1
              simp only [Option.some.injEq, Prod.mk.injEq] at H
              obtain ⟨rfl, rfl, rfl⟩ := H
              have p184 : 0 ≤ (x11_1 : Int) := of_decide_eq_true (by first | (with_reducible assumption) | assumption)
              have q184 : x11_1 < (t181.length : Int) := of_decide_eq_true (by first | (with_reducible assumption) | assumption)
              obtain ⟨ad184, e184, hx184_0⟩ := Kd.at_string (Kd.R_reads' HO_9.out).2.2 x11_1 p184 q184
              cases e184
              replace p184 := eq_true p184
              replace q184 := eq_true q184
              go_wp2_with (first | ((with_reducible refine gate_callee (f := 17) rfl ?_); refine goesL_ (some 16) rfl rfl Tryd.func17 (by kernel_rfl) rfl #[.string (rdOf ByteArray.empty t181 x11_1)] rfl (by (try simp only [List.map_toArray, List.map_cons, List.map_nil]); first | done | rfl | (simp only [List.length_drop, List.length_take]; rfl)) ?_; (with_reducible refine (backseatref03_Named.calls k1 (rdOf ByteArray.empty t181 x11_1) t185 _ A10.out).mono ?_); rintro e w13 ⟨rfl, hb⟩; refine ⟨_, rfl, ?_⟩; have n0_ := Aside0.mk (Kd.R_below (by (with_reducible repeat (first | apply Kd.R_alloc | apply Kd.R_drewN | apply Kd.R_drew)); exact HO_9.out) hb); have n1_ := Aside0.mk (blk_below (g := gb180) (o := .cells #[.string x181000_1, .int .i64 x181001_1, .bool x181002_1] 69 (0, 0)) (by (with_reducible repeat (first | refine blk_drewN ?_ _ | refine blk_drew ?_ | refine blk_alloc ?_ _)); exact BK180.out) hb); have n2_ := Aside0.mk (below_step (by repeat (first | (with_reducible first | exact HB.out | apply below_alloc | apply pw_below_drewN | apply below_drew1 | refine below_set ?_ GE180.out) | exact HB.out)) hb); clear HO_9; clear BK180; clear HB; have HO_9 := n0_; have BK180 := n1_; have HB := n2_; clear n0_ n1_ n2_; (try clear hb); (try clear hb2); (try clear hk); (try clear hi)) | ((with_reducible refine gate_callee (f := 19) rfl ?_); refine goesL_ (some 19) rfl rfl Tryd.func19 (by kernel_rfl) rfl #[.string a0, .string t185] rfl (by (try simp only [List.map_toArray, List.map_cons, List.map_nil]); first | done | rfl | (simp only [List.length_drop, List.length_take]; rfl)) ?_; (with_reducible refine (backseatref03_prefix.calls a0 t185 true _ A11.out).mono ?_); rintro e w' ⟨rfl, ⟨nd, rfl⟩⟩; refine ⟨_, rfl, ?_⟩; (try (rw [drewN_self w13]; generalize hq_ : World.drewN w13 _ = w13; have n0_ : Aside0 (Kd.R Kd.string 9 w13 w.heap.size (fun _ => True) (.slice (some ad184) t181.length co6) t181) := ⟨by rw [← hq_]; exact (by (with_reducible repeat (first | apply Kd.R_alloc | apply Kd.R_drewN | apply Kd.R_drew)); exact HO_9.out)⟩; have n1_ : Aside0 (w13.heap[gb180]? = some (.cells #[.string x181000_1, .int .i64 x181001_1, .bool x181002_1] 69 (0, 0))) := ⟨by rw [← hq_]; exact (by (with_reducible repeat (first | refine blk_drewN ?_ _ | refine blk_drew ?_ | refine blk_alloc ?_ _)); exact BK180.out)⟩; have n2_ : Aside0 (Below w.heap.size w w13) := ⟨by rw [← hq_]; exact (by repeat (first | (with_reducible first | exact HB.out | apply below_alloc | apply pw_below_drewN | apply below_drew1 | refine below_set ?_ GE180.out) | exact HB.out))⟩; clear HO_9 BK180 HB hq_; have HO_9 := n0_; have BK180 := n1_; have HB := n2_; clear n0_ n1_ n2_; have hczu_BK180_0 : w13.cell? ⟨gb180, 0, none⟩ = some (.string x181000_1) := (blk_cell BK180.out 0).trans rfl; have hfzu_BK180_0 := blk_frozen BK180.out 0; have hczu_BK180_1 : w13.cell? ⟨gb180, 1, none⟩ = some (.int .i64 x181001_1) := (blk_cell BK180.out 1).trans rfl; have hfzu_BK180_1 := blk_frozen BK180.out 1; have hczu_BK180_2 : w13.cell? ⟨gb180, 2, none⟩ = some (.bool x181002_1) := (blk_cell BK180.out 2).trans rfl; have hfzu_BK180_2 := blk_frozen BK180.out 2)); have hcz14_0 : w13.cell? ⟨gb180, 0, none⟩ = some (.string x181000_1) := (blk_cell BK180.out 0).trans rfl; have hcz14_1 : w13.cell? ⟨gb180, 1, none⟩ = some (.int .i64 x181001_1) := (blk_cell BK180.out 1).trans rfl; have hcz14_2 : w13.cell? ⟨gb180, 2, none⟩ = some (.bool x181002_1) := (blk_cell BK180.out 2).trans rfl; have hfz14_0 := blk_frozen BK180.out 0; have hfz14_1 := blk_frozen BK180.out 1; have hfz14_2 := blk_frozen BK180.out 2))
              refine bodyPost_ret (results_cell_row rfl _ _ gb180 69 #[.string (rdOf ByteArray.empty t181 x11_1), .int .i64 (t185.size : Int), .bool true] (0, 0) _ rfl (by (with_reducible repeat (first | refine blk_drewN ?_ _ | refine blk_drew ?_ | refine blk_alloc ?_ _)); refine blk_put (cs := #[.string (rdOf ByteArray.empty t181 x11_1), .int .i64 (t185.size : Int), .bool x181002_1]) ?_ 2 _ rfl; (with_reducible repeat (first | refine blk_drewN ?_ _ | refine blk_drew ?_ | refine blk_alloc ?_ _)); refine blk_put (cs := #[.string (rdOf ByteArray.empty t181 x11_1), .int .i64 x181001_1, .bool x181002_1]) ?_ 1 _ rfl; (with_reducible repeat (first | refine blk_drewN ?_ _ | refine blk_drew ?_ | refine blk_alloc ?_ _)); refine blk_put (cs := #[.string x181000_1, .int .i64 x181001_1, .bool x181002_1]) ?_ 0 _ rfl; (with_reducible repeat (first | refine blk_drewN ?_ _ | refine blk_drew ?_ | refine blk_alloc ?_ _)); exact BK180.out) Tryd.underlying69 rfl (by kernel_rfl)) rfl ?_
              exact ⟨by first | rfl | (simp [errW_none, errW_some] <;> rfl) | (simp [*, errW_none, errW_some] <;> rfl), by repeat (first | (with_reducible first | exact HB.out | apply below_alloc | apply pw_below_drewN | apply below_drew1 | refine below_set ?_ GE180.out) | exact HB.out)⟩
            · replace c12 := Bool.eq_false_iff.mpr c12
              subst c12
              have H1 : (if x5_1 = true then (backseatref03_named.l0 k1 a0 a1 true t181 (t181.length : Int) (wrap64 (x11_1 + 1))) else ((backseatref03_prefix.f t185 a0).bind fun t187 => (backseatref03_named.l0 k1 a0 a1 t187 t181 (t181.length : Int) (wrap64 (x11_1 + 1))))) = some (r1, r2, r3) := by rw [if_neg (show ¬ (false = true) by decide)] at H; exact H
              clear H
              have H := H1
              clear H1
              by_cases c15 : x5_1 = true
              · subst c15
                have H1 : (backseatref03_named.l0 k1 a0 a1 true t181 (t181.length : Int) (wrap64 (x11_1 + 1))) = some (r1, r2, r3) := by rw [if_pos rfl] at H; exact H
                clear H
                have H := H1
                clear H1
                have H' := Aside0.mk H
                clear H
                have p184 : 0 ≤ (x11_1 : Int) := of_decide_eq_true (by first | (with_reducible assumption) | assumption)
                have q184 : x11_1 < (t181.length : Int) := of_decide_eq_true (by first | (with_reducible assumption) | assumption)
                obtain ⟨ad184, e184, hx184_0⟩ := Kd.at_string (Kd.R_reads' HO_9.out).2.2 x11_1 p184 q184
                cases e184
                replace p184 := eq_true p184
                replace q184 := eq_true q184
                go_wp2_with (first | ((with_reducible refine gate_callee (f := 17) rfl ?_); refine goesL_ (some 16) rfl rfl Tryd.func17 (by kernel_rfl) rfl #[.string (rdOf ByteArray.empty t181 x11_1)] rfl (by (try simp only [List.map_toArray, List.map_cons, List.map_nil]); first | done | rfl | (simp only [List.length_drop, List.length_take]; rfl)) ?_; (with_reducible refine (backseatref03_Named.calls k1 (rdOf ByteArray.empty t181 x11_1) t185 _ A10.out).mono ?_); rintro e w16 ⟨rfl, hb⟩; refine ⟨_, rfl, ?_⟩; have n0_ := Aside0.mk (Kd.R_below (by (with_reducible repeat (first | apply Kd.R_alloc | apply Kd.R_drewN | apply Kd.R_drew)); exact HO_9.out) hb); have n1_ := Aside0.mk (blk_below (g := gb180) (o := .cells #[.string x181000_1, .int .i64 x181001_1, .bool x181002_1] 69 (0, 0)) (by (with_reducible repeat (first | refine blk_drewN ?_ _ | refine blk_drew ?_ | refine blk_alloc ?_ _)); exact BK180.out) hb); have n2_ := Aside0.mk (below_step (by repeat (first | (with_reducible first | exact HB.out | apply below_alloc | apply pw_below_drewN | apply below_drew1 | refine below_set ?_ GE180.out) | exact HB.out)) hb); clear HO_9; clear BK180; clear HB; have HO_9 := n0_; have BK180 := n1_; have HB := n2_; clear n0_ n1_ n2_; (try clear hb); (try clear hb2); (try clear hk); (try clear hi)) | ((with_reducible refine gate_callee (f := 19) rfl ?_); refine goesL_ (some 19) rfl rfl Tryd.func19 (by kernel_rfl) rfl #[.string a0, .string t185] rfl (by (try simp only [List.map_toArray, List.map_cons, List.map_nil]); first | done | rfl | (simp only [List.length_drop, List.length_take]; rfl)) ?_; (with_reducible refine (backseatref03_prefix.calls a0 t185 false _ A11.out).mono ?_); rintro e w' ⟨rfl, ⟨nd, rfl⟩⟩; refine ⟨_, rfl, ?_⟩))
                go_roundg k1
                case measure => have := HK1.out; omega
                case rel => exact ⟨(true), (wrap64 (x11_1 + 1)), (x181000_1), (x181001_1), (x181002_1), (by first | rfl | (simp; done) | (simp [*]; done)), (by first | rfl | (simp; done) | (simp [*]; done)), H', ⟨by have := HK1.out; omega⟩, ⟨by (with_reducible repeat (first | apply Kd.R_alloc | apply Kd.R_drewN | apply Kd.R_drew)); exact HO_9.out⟩, ⟨by (with_reducible repeat (first | refine blk_drewN ?_ _ | refine blk_drew ?_ | refine blk_alloc ?_ _)); exact BK180.out⟩, ⟨by repeat (first | (with_reducible first | exact HB.out | apply below_alloc | apply pw_below_drewN | apply below_drew1 | refine below_set ?_ GE180.out) | exact HB.out)⟩⟩
              · replace c15 := Bool.eq_false_iff.mpr c15
                subst c15
                have H1 : ((backseatref03_prefix.f t185 a0).bind fun t187 => (backseatref03_named.l0 k1 a0 a1 t187 t181 (t181.length : Int) (wrap64 (x11_1 + 1)))) = some (r1, r2, r3) := by rw [if_neg (show ¬ (false = true) by decide)] at H; exact H
                clear H
                have H := H1
                clear H1
                replace H := Option.bind_eq_some_iff.mp H
                obtain ⟨t187, A170, H⟩ := H
                replace H : (backseatref03_named.l0 k1 a0 a1 t187 t181 (t181.length : Int) (wrap64 (x11_1 + 1))) = some (r1, r2, r3) := H
                have A17 := Aside0.mk A170
                clear A170
                have H' := Aside0.mk H
                clear H
                have p184 : 0 ≤ (x11_1 : Int) := of_decide_eq_true (by first | (with_reducible assumption) | assumption)
                have q184 : x11_1 < (t181.length : Int) := of_decide_eq_true (by first | (with_reducible assumption) | assumption)
                obtain ⟨ad184, e184, hx184_0⟩ := Kd.at_string (Kd.R_reads' HO_9.out).2.2 x11_1 p184 q184
                cases e184
                replace p184 := eq_true p184
                replace q184 := eq_true q184
                go_wp2_with (first | ((with_reducible refine gate_callee (f := 17) rfl ?_); refine goesL_ (some 16) rfl rfl Tryd.func17 (by kernel_rfl) rfl #[.string (rdOf ByteArray.empty t181 x11_1)] rfl (by (try simp only [List.map_toArray, List.map_cons, List.map_nil]); first | done | rfl | (simp only [List.length_drop, List.length_take]; rfl)) ?_; (with_reducible refine (backseatref03_Named.calls k1 (rdOf ByteArray.empty t181 x11_1) t185 _ A10.out).mono ?_); rintro e w18 ⟨rfl, hb⟩; refine ⟨_, rfl, ?_⟩; have n0_ := Aside0.mk (Kd.R_below (by (with_reducible repeat (first | apply Kd.R_alloc | apply Kd.R_drewN | apply Kd.R_drew)); exact HO_9.out) hb); have n1_ := Aside0.mk (blk_below (g := gb180) (o := .cells #[.string x181000_1, .int .i64 x181001_1, .bool x181002_1] 69 (0, 0)) (by (with_reducible repeat (first | refine blk_drewN ?_ _ | refine blk_drew ?_ | refine blk_alloc ?_ _)); exact BK180.out) hb); have n2_ := Aside0.mk (below_step (by repeat (first | (with_reducible first | exact HB.out | apply below_alloc | apply pw_below_drewN | apply below_drew1 | refine below_set ?_ GE180.out) | exact HB.out)) hb); clear HO_9; clear BK180; clear HB; have HO_9 := n0_; have BK180 := n1_; have HB := n2_; clear n0_ n1_ n2_; (try clear hb); (try clear hb2); (try clear hk); (try clear hi)) | ((with_reducible refine gate_callee (f := 19) rfl ?_); refine goesL_ (some 19) rfl rfl Tryd.func19 (by kernel_rfl) rfl #[.string a0, .string t185] rfl (by (try simp only [List.map_toArray, List.map_cons, List.map_nil]); first | done | rfl | (simp only [List.length_drop, List.length_take]; rfl)) ?_; (with_reducible refine (backseatref03_prefix.calls a0 t185 false _ A11.out).mono ?_); rintro e w' ⟨rfl, ⟨nd, rfl⟩⟩; refine ⟨_, rfl, ?_⟩) | (go_at_call 19; (with_reducible refine (backseatref03_prefix.calls t185 a0 t187 _ A17.out).mono ?_); rintro e w' ⟨rfl, ⟨nd, rfl⟩⟩))
                go_roundg k1
                case measure => have := HK1.out; omega
                case rel => exact ⟨(t187), (wrap64 (x11_1 + 1)), (x181000_1), (x181001_1), (x181002_1), (by first | rfl | (simp; done) | (simp [*]; done)), (by first | rfl | (simp; done) | (simp [*]; done)), H', ⟨by have := HK1.out; omega⟩, ⟨by (with_reducible repeat (first | apply Kd.R_alloc | apply Kd.R_drewN | apply Kd.R_drew)); exact HO_9.out⟩, ⟨by (with_reducible repeat (first | refine blk_drewN ?_ _ | refine blk_drew ?_ | refine blk_alloc ?_ _)); exact BK180.out⟩, ⟨by repeat (first | (with_reducible first | exact HB.out | apply below_alloc | apply pw_below_drewN | apply below_drew1 | refine below_set ?_ GE180.out) | exact HB.out)⟩⟩
          · rw [if_neg c9] at H
            exact absurd H (by simp)
        · rw [if_neg c8] at H
          exact absurd H (by simp)
      · rw [if_neg c7] at H
        have c7b0 : decide (x11_1 < (t181.length : Int)) = false := decide_eq_false c7
        clear c7
        by_cases c19 : x5_1 = true
        · subst c19
          have H1 : (some ((⟨#[]⟩ : ByteArray), 0, !a1)) = some (r1, r2, r3) := by rw [if_pos rfl] at H; exact H
          clear H
          have H := H1
          clear H1
          simp only [Option.some.injEq, Prod.mk.injEq] at H
          obtain ⟨rfl, rfl, rfl⟩ := H
          have hcz20_0 : wr.cell? ⟨gb180, 0, none⟩ = some (.string x181000_1) := (blk_cell BK180.out 0).trans rfl
          have hcz20_1 : wr.cell? ⟨gb180, 1, none⟩ = some (.int .i64 x181001_1) := (blk_cell BK180.out 1).trans rfl
          have hcz20_2 : wr.cell? ⟨gb180, 2, none⟩ = some (.bool x181002_1) := (blk_cell BK180.out 2).trans rfl
          have hfz20_0 := blk_frozen BK180.out 0
          have hfz20_1 := blk_frozen BK180.out 1
          have hfz20_2 := blk_frozen BK180.out 2
          go_wp2
          refine bodyPost_ret (results_cell_row rfl _ _ gb180 69 #[.string (⟨#[]⟩ : ByteArray), .int .i64 0, .bool (!a1)] (0, 0) _ rfl (by (with_reducible repeat (first | refine blk_drewN ?_ _ | refine blk_drew ?_ | refine blk_alloc ?_ _)); refine blk_put (cs := #[.string (⟨#[]⟩ : ByteArray), .int .i64 0, .bool x181002_1]) ?_ 2 _ rfl; (with_reducible repeat (first | refine blk_drewN ?_ _ | refine blk_drew ?_ | refine blk_alloc ?_ _)); refine blk_put (cs := #[.string (⟨#[]⟩ : ByteArray), .int .i64 x181001_1, .bool x181002_1]) ?_ 1 _ rfl; (with_reducible repeat (first | refine blk_drewN ?_ _ | refine blk_drew ?_ | refine blk_alloc ?_ _)); refine blk_put (cs := #[.string x181000_1, .int .i64 x181001_1, .bool x181002_1]) ?_ 0 _ rfl; (with_reducible repeat (first | refine blk_drewN ?_ _ | refine blk_drew ?_ | refine blk_alloc ?_ _)); exact BK180.out) Tryd.underlying69 rfl (by kernel_rfl)) rfl ?_
          exact ⟨by first | rfl | (simp [errW_none, errW_some] <;> rfl) | (simp [*, errW_none, errW_some] <;> rfl), by repeat (first | (with_reducible first | exact HB.out | apply below_alloc | apply pw_below_drewN | apply below_drew1 | refine below_set ?_ GE180.out) | exact HB.out)⟩
        · replace c19 := Bool.eq_false_iff.mpr c19
          subst c19
          have H1 : (some ((⟨#[]⟩ : ByteArray), 0, false)) = some (r1, r2, r3) := by rw [if_neg (show ¬ (false = true) by decide)] at H; exact H
          clear H
          have H := H1
          clear H1
          simp only [Option.some.injEq, Prod.mk.injEq] at H
          obtain ⟨rfl, rfl, rfl⟩ := H
          have hcz21_0 : wr.cell? ⟨gb180, 0, none⟩ = some (.string x181000_1) := (blk_cell BK180.out 0).trans rfl
          have hcz21_1 : wr.cell? ⟨gb180, 1, none⟩ = some (.int .i64 x181001_1) := (blk_cell BK180.out 1).trans rfl
          have hcz21_2 : wr.cell? ⟨gb180, 2, none⟩ = some (.bool x181002_1) := (blk_cell BK180.out 2).trans rfl
          have hfz21_0 := blk_frozen BK180.out 0
          have hfz21_1 := blk_frozen BK180.out 1
          have hfz21_2 := blk_frozen BK180.out 2
          go_wp2
          refine bodyPost_ret (results_cell_row rfl _ _ gb180 69 #[.string (⟨#[]⟩ : ByteArray), .int .i64 0, .bool false] (0, 0) _ rfl (by (with_reducible repeat (first | refine blk_drewN ?_ _ | refine blk_drew ?_ | refine blk_alloc ?_ _)); refine blk_put (cs := #[.string (⟨#[]⟩ : ByteArray), .int .i64 0, .bool x181002_1]) ?_ 2 _ rfl; (with_reducible repeat (first | refine blk_drewN ?_ _ | refine blk_drew ?_ | refine blk_alloc ?_ _)); refine blk_put (cs := #[.string (⟨#[]⟩ : ByteArray), .int .i64 x181001_1, .bool x181002_1]) ?_ 1 _ rfl; (with_reducible repeat (first | refine blk_drewN ?_ _ | refine blk_drew ?_ | refine blk_alloc ?_ _)); refine blk_put (cs := #[.string x181000_1, .int .i64 x181001_1, .bool x181002_1]) ?_ 0 _ rfl; (with_reducible repeat (first | refine blk_drewN ?_ _ | refine blk_drew ?_ | refine blk_alloc ?_ _)); exact BK180.out) Tryd.underlying69 rfl (by kernel_rfl)) rfl ?_
          exact ⟨by first | rfl | (simp [errW_none, errW_some] <;> rfl) | (simp [*, errW_none, errW_some] <;> rfl), by repeat (first | (with_reducible first | exact HB.out | apply below_alloc | apply pw_below_drewN | apply below_drew1 | refine below_set ?_ GE180.out) | exact HB.out)⟩
end Go.Proofs.YtbnpcnpdeinacaaDoor.P
