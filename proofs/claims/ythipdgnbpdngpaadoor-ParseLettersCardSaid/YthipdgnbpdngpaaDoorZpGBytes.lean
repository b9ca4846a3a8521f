-- Copies of the texts YthipdgnbpdngpaaDoorSx7, YthipdgnbpdngpaaDoorMP2, YthipdgnbpdngpaaDoorGBytes with what this claim does not reach left out (prune.py, a program of this project).
import Derived.Test.YthipdgnbpdngpaaDoorZpSx0
import Derived.Test.YthipdgnbpdngpaaDoorZpSx1
import Derived.Test.YthipdgnbpdngpaaDoorZpSx2
import Derived.Test.YthipdgnbpdngpaaDoorZpSx5
import Derived.Test.YthipdgnbpdngpaaDoorZpSx6
import Derived.Test.YthipdgnbpdngpaaDoorZpGFeed
import Derived.Test.YthipdgnbpdngpaaDoorZpGShort
import Derived.Test.YthipdgnbpdngpaaDoorZpPx0
import Derived.Lib.Hide
section
namespace Go.Proofs.YthipdgnbpdngpaaDoor.S
open Go.RowKit Go.Proofs.YthipdgnbpdngpaaDoor Go.Proofs.YthipdgnbpdngpaaDoorW.PrintWords Go.Proofs.YthipdgnbpdngpaaDoorW.PrintLast Go.Proofs.YthipdgnbpdngpaaDoorW.PrintMore
attribute [local go_sem] max2_int min2_int max_two min_two max_three min_three max_four min_four   -- for this text's walks alone
set_option linter.unusedVariables false
set_option linter.unusedSimpArgs false
def m11_0_ : Array Bool := mk_ 17 1
def m11_1_ : Array Bool := mk_ 17 3
def m11_2_ : Array Bool := mk_ 17 11
def m11_3_ : Array Bool := mk_ 17 27
def m11_4_ : Array Bool := mk_ 17 31
def m11_5_ : Array Bool := mk_ 17 63
def m11_6_ : Array Bool := mk_ 17 127
def m11_7_ : Array Bool := mk_ 17 255
def m11_8_ : Array Bool := mk_ 17 511
def m11_9_ : Array Bool := mk_ 17 1023
def m11_10_ : Array Bool := mk_ 17 2047
def m11_11_ : Array Bool := mk_ 17 4095
def m11_12_ : Array Bool := mk_ 17 8191
def m11_13_ : Array Bool := mk_ 17 16383
def m11_14_ : Array Bool := mk_ 17 32767
def m11_15_ : Array Bool := mk_ 17 65535
def m11_16_ : Array Bool := mk_ 17 131071
mutual
def backseatlaw05_ParseLetters.j0 : Nat → List Int → Int → Bool → Option (Bool)
 | 0, _, _, _ => none
 | k + 1, x0, x1, x38 => if x38 = true then (some false) else (backseatlaw05_ParseLetters.l0 k x1 (⟨#[]⟩ : ByteArray) ([] : List Int) x0 (x0.length : Int) 0)
def backseatlaw05_ParseLetters.l0 : Nat → Int → ByteArray → List Int → List Int → Int → Int → Option (Bool)
 | 0, _, _, _, _, _, _ => none
 | k + 1, x1, x9, x10, x39, x40, x41 => if x41 < x40 then (if 0 ≤ x41 then (if x41 < (x39.length : Int) then (if x41 < 30 then ((backseatref01_Is.f (rd x39 x41)).bind fun t310 => (if t310 = true then (if (rd x39 x41) ≥ 160 then ((backseatref01_Text.f k (rd x39 x41)).bind fun t311 => (if x9.size + t311.size ≤ 9223372036854775807 then (if x10.length < 35184372088832 then (backseatlaw05_ParseLetters.l0 k x1 (x9 ++ t311) (x10 ++ [rd x39 x41]) x39 x40 (wrap64 (x41 + 1))) else (none)) else (none))) else (if (rd x39 x41) ≥ 32 then (if (rd x39 x41) < 127 then ((backseatref01_Text.f k (rd x39 x41)).bind fun t315 => (if x9.size + t315.size ≤ 9223372036854775807 then (if x10.length < 35184372088832 then (backseatlaw05_ParseLetters.l0 k x1 (x9 ++ t315) (x10 ++ [rd x39 x41]) x39 x40 (wrap64 (x41 + 1))) else (none)) else (none))) else (backseatlaw05_ParseLetters.l0 k x1 x9 x10 x39 x40 (wrap64 (x41 + 1)))) else (backseatlaw05_ParseLetters.l0 k x1 x9 x10 x39 x40 (wrap64 (x41 + 1))))) else (backseatlaw05_ParseLetters.l0 k x1 x9 x10 x39 x40 (wrap64 (x41 + 1))))) else (backseatlaw05_ParseLetters.l0 k x1 x9 x10 x39 x40 (wrap64 (x41 + 1)))) else (none)) else (none)) else ((parse_Feed.f 0 0 ([] : List Int) 0 (⟨#[]⟩ : ByteArray) (⟨#[]⟩ : ByteArray) x9).bind fun bt319 => (if bt319.2.2.2.2.2.2.2 = 0 then ((backseatref05_LikeParser.f k bt319.1 bt319.2.1 bt319.2.2.1 bt319.2.2.2.1 bt319.2.2.2.2.1 bt319.2.2.2.2.2.1 0 0 ([] : List Int) 0 (⟨#[]⟩ : ByteArray) (⟨#[]⟩ : ByteArray)).bind fun t332 => (if t332 = true then (backseatlaw05_ParseLetters.j2 k x1 x10 bt319.2.2.2.2.2.2.1 ((bt319.2.2.2.2.2.2.1.length : Int) != (x10.length : Int))) else (backseatlaw05_ParseLetters.j2 k x1 x10 bt319.2.2.2.2.2.2.1 true))) else (backseatlaw05_ParseLetters.j2 k x1 x10 bt319.2.2.2.2.2.2.1 true)))
def backseatlaw05_ParseLetters.j2 : Nat → Int → List Int → List (S62) → Bool → Option (Bool)
 | 0, _, _, _, _ => none
 | k + 1, x1, x10, x14, x94 => if x94 = true then (some false) else (backseatlaw05_ParseLetters.l1 k x1 x10 x14 (x14.length : Int) 0)
def backseatlaw05_ParseLetters.l1 : Nat → Int → List Int → List (S62) → Int → Int → Option (Bool)
 | 0, _, _, _, _, _ => none
 | k + 1, x1, x10, x95, x96, x97 => if x97 < x96 then (if 0 ≤ x97 then (if x97 < (x95.length : Int) then (if x97 < (x10.length : Int) then ((backseatref05_Like.f k ((rd_T62 x95 x97).f0) ((rd_T62 x95 x97).f1) ((rd_T62 x95 x97).f2) ((rd_T62 x95 x97).f3) ((rd_T62 x95 x97).f4) ((rd_T62 x95 x97).f5) ((rd_T62 x95 x97).f6) 1 (rd x10 x97) 0 0 ([] : List Int) 0 (⟨#[]⟩ : ByteArray)).bind fun t336 => (if t336 = true then (backseatlaw05_ParseLetters.l1 k x1 x10 x95 x96 (wrap64 (x97 + 1))) else (some false))) else (none)) else (none)) else (none)) else ((parse_Feed.f 0 0 ([] : List Int) 0 (⟨#[]⟩ : ByteArray) (⟨#[]⟩ : ByteArray) (strOfNums (([(Int.tmod (wrap64 ((Int.tmod x1 24) + 24)) 24) % 256] : List Int)))).bind fun bt340 => (if bt340.2.2.2.2.2.2.2 = 0 then ((backseatref05_LikeParser.f k bt340.1 bt340.2.1 bt340.2.2.1 bt340.2.2.2.1 bt340.2.2.2.2.1 bt340.2.2.2.2.2.1 0 0 ([] : List Int) 0 (⟨#[]⟩ : ByteArray) (⟨#[]⟩ : ByteArray)).bind fun t352 => (if t352 = true then (if (bt340.2.2.2.2.2.2.1.length : Int) = 1 then (if 0 < (bt340.2.2.2.2.2.2.1.length : Int) then ((backseatref05_Like.f k ((rd_T62 bt340.2.2.2.2.2.2.1 0).f0) ((rd_T62 bt340.2.2.2.2.2.2.1 0).f1) ((rd_T62 bt340.2.2.2.2.2.2.1 0).f2) ((rd_T62 bt340.2.2.2.2.2.2.1 0).f3) ((rd_T62 bt340.2.2.2.2.2.2.1 0).f4) ((rd_T62 bt340.2.2.2.2.2.2.1 0).f5) ((rd_T62 bt340.2.2.2.2.2.2.1 0).f6) 2 0 (Int.tmod (wrap64 ((Int.tmod x1 24) + 24)) 24) 0 ([] : List Int) 0 (⟨#[]⟩ : ByteArray)).bind fun t354 => (some t354)) else (none)) else (some false)) else (some false))) else (some false)))
end
def backseatlaw05_ParseLetters.f (k : Nat) (l0 : List Int) (a1 : Int) (a2_0 : Int) (a2_1 : Int) (a2_2 : Int) (a2_3 : Int) (l2_4 : List Int) (a2_5 : Int) (a2_6 : ByteArray) (a3_0 : Int) (a3_1 : Int) (a3_2 : Int) (a3_3 : Int) (l3_4 : List Int) (a3_5 : Int) (a3_6 : ByteArray) : Option (Bool) := (backseatlaw05_cut.f a2_0 a2_1 a2_2 a2_3 l2_4 a2_5 a2_6).bind fun bt287 => ((backseatlaw05_cut.f a3_0 a3_1 a3_2 a3_3 l3_4 a3_5 a3_6).bind fun bt296 => ((parse_Like.f k bt287.1 bt287.2.1 bt287.2.2.1 bt287.2.2.2.1 bt287.2.2.2.2.1 bt287.2.2.2.2.2.1 bt287.2.2.2.2.2.2 bt296.1 bt296.2.1 bt296.2.2.1 bt296.2.2.2.1 bt296.2.2.2.2.1 bt296.2.2.2.2.2.1 bt296.2.2.2.2.2.2).bind fun t305 => ((backseatref05_Like.f k bt287.1 bt287.2.1 bt287.2.2.1 bt287.2.2.2.1 bt287.2.2.2.2.1 bt287.2.2.2.2.2.1 bt287.2.2.2.2.2.2 bt296.1 bt296.2.1 bt296.2.2.1 bt296.2.2.2.1 bt296.2.2.2.2.1 bt296.2.2.2.2.2.1 bt296.2.2.2.2.2.2).bind fun t306 => (if (t305 != t306) = true then (backseatlaw05_ParseLetters.j0 k l0 a1 true) else ((parse_Like.f k bt287.1 bt287.2.1 bt287.2.2.1 bt287.2.2.2.1 bt287.2.2.2.2.1 bt287.2.2.2.2.2.1 bt287.2.2.2.2.2.2 bt287.1 bt287.2.1 bt287.2.2.1 bt287.2.2.2.1 bt287.2.2.2.2.1 bt287.2.2.2.2.2.1 bt287.2.2.2.2.2.2).bind fun t307 => (if t307 = true then ((backseatlaw05_alive.f).bind fun t308 => (backseatlaw05_ParseLetters.j0 k l0 a1 (!t308))) else (backseatlaw05_ParseLetters.j0 k l0 a1 true)))))))
theorem backseatlaw05_ParseLetters.mono_l : ∀ k, (∀ y0 y1 y2, LeO (backseatlaw05_ParseLetters.j0 k y0 y1 y2) (backseatlaw05_ParseLetters.j0 (k + 1) y0 y1 y2)) ∧ (∀ y0 y1 y2 y3 y4 y5, LeO (backseatlaw05_ParseLetters.l0 k y0 y1 y2 y3 y4 y5) (backseatlaw05_ParseLetters.l0 (k + 1) y0 y1 y2 y3 y4 y5)) ∧ (∀ y0 y1 y2 y3, LeO (backseatlaw05_ParseLetters.j2 k y0 y1 y2 y3) (backseatlaw05_ParseLetters.j2 (k + 1) y0 y1 y2 y3)) ∧ (∀ y0 y1 y2 y3 y4, LeO (backseatlaw05_ParseLetters.l1 k y0 y1 y2 y3 y4) (backseatlaw05_ParseLetters.l1 (k + 1) y0 y1 y2 y3 y4))
 | 0 => ⟨fun _ _ _ r h => by simp [backseatlaw05_ParseLetters.j0] at h, fun _ _ _ _ _ _ r h => by simp [backseatlaw05_ParseLetters.l0] at h, fun _ _ _ _ r h => by simp [backseatlaw05_ParseLetters.j2] at h, fun _ _ _ _ _ r h => by simp [backseatlaw05_ParseLetters.l1] at h⟩
 | k + 1 => by
  obtain ⟨ih0, ih1, ih2, ih3⟩ := backseatlaw05_ParseLetters.mono_l k
  refine ⟨?_, ?_, ?_, ?_⟩
  ·intro y0 y1 y2
   unfold backseatlaw05_ParseLetters.j0
   repeat' first
   | (with_reducible exact ih0 _ _ _)
   | (with_reducible exact ih1 _ _ _ _ _ _)
   | (with_reducible exact ih2 _ _ _ _)
   | (with_reducible exact ih3 _ _ _ _ _)
   | (with_reducible exact backseatref01_Text.mono _ _)
   | (with_reducible exact backseatref05_Like.mono _ _ _ _ _ _ _ _ _ _ _ _ _ _ _)
   | (with_reducible exact backseatref05_LikeParser.mono _ _ _ _ _ _ _ _ _ _ _ _ _)
   | (with_reducible exact parse_Like.mono _ _ _ _ _ _ _ _ _ _ _ _ _ _ _)
   | (with_reducible exact LeO.refl _)
   | (with_reducible exact LeO.none _)
   | (with_reducible refine LeO.ite ?_ ?_)
   | (with_reducible refine LeO.bind ?_ (fun _ => ?_))
   | exact ih0 _ _ _
   | exact ih1 _ _ _ _ _ _
   | exact ih2 _ _ _ _
   | exact ih3 _ _ _ _ _
   | exact backseatref01_Text.mono _ _
   | exact backseatref05_Like.mono _ _ _ _ _ _ _ _ _ _ _ _ _ _ _
   | exact backseatref05_LikeParser.mono _ _ _ _ _ _ _ _ _ _ _ _ _
   | exact parse_Like.mono _ _ _ _ _ _ _ _ _ _ _ _ _ _ _
   | exact LeO.none _
   | refine LeO.ite ?_ ?_
   | refine LeO.bind ?_ (fun _ => ?_)
  ·intro y0 y1 y2 y3 y4 y5
   unfold backseatlaw05_ParseLetters.l0
   repeat' first
   | (with_reducible exact ih0 _ _ _)
   | (with_reducible exact ih1 _ _ _ _ _ _)
   | (with_reducible exact ih2 _ _ _ _)
   | (with_reducible exact ih3 _ _ _ _ _)
   | (with_reducible exact backseatref01_Text.mono _ _)
   | (with_reducible exact backseatref05_Like.mono _ _ _ _ _ _ _ _ _ _ _ _ _ _ _)
   | (with_reducible exact backseatref05_LikeParser.mono _ _ _ _ _ _ _ _ _ _ _ _ _)
   | (with_reducible exact parse_Like.mono _ _ _ _ _ _ _ _ _ _ _ _ _ _ _)
   | (with_reducible exact LeO.refl _)
   | (with_reducible exact LeO.none _)
   | (with_reducible refine LeO.ite ?_ ?_)
   | (with_reducible refine LeO.bind ?_ (fun _ => ?_))
   | exact ih0 _ _ _
   | exact ih1 _ _ _ _ _ _
   | exact ih2 _ _ _ _
   | exact ih3 _ _ _ _ _
   | exact backseatref01_Text.mono _ _
   | exact backseatref05_Like.mono _ _ _ _ _ _ _ _ _ _ _ _ _ _ _
   | exact backseatref05_LikeParser.mono _ _ _ _ _ _ _ _ _ _ _ _ _
   | exact parse_Like.mono _ _ _ _ _ _ _ _ _ _ _ _ _ _ _
   | exact LeO.none _
   | refine LeO.ite ?_ ?_
   | refine LeO.bind ?_ (fun _ => ?_)
  ·intro y0 y1 y2 y3
   unfold backseatlaw05_ParseLetters.j2
   repeat' first
   | (with_reducible exact ih0 _ _ _)
   | (with_reducible exact ih1 _ _ _ _ _ _)
   | (with_reducible exact ih2 _ _ _ _)
   | (with_reducible exact ih3 _ _ _ _ _)
   | (with_reducible exact backseatref01_Text.mono _ _)
   | (with_reducible exact backseatref05_Like.mono _ _ _ _ _ _ _ _ _ _ _ _ _ _ _)
   | (with_reducible exact backseatref05_LikeParser.mono _ _ _ _ _ _ _ _ _ _ _ _ _)
   | (with_reducible exact parse_Like.mono _ _ _ _ _ _ _ _ _ _ _ _ _ _ _)
   | (with_reducible exact LeO.refl _)
   | (with_reducible exact LeO.none _)
   | (with_reducible refine LeO.ite ?_ ?_)
   | (with_reducible refine LeO.bind ?_ (fun _ => ?_))
   | exact ih0 _ _ _
   | exact ih1 _ _ _ _ _ _
   | exact ih2 _ _ _ _
   | exact ih3 _ _ _ _ _
   | exact backseatref01_Text.mono _ _
   | exact backseatref05_Like.mono _ _ _ _ _ _ _ _ _ _ _ _ _ _ _
   | exact backseatref05_LikeParser.mono _ _ _ _ _ _ _ _ _ _ _ _ _
   | exact parse_Like.mono _ _ _ _ _ _ _ _ _ _ _ _ _ _ _
   | exact LeO.none _
   | refine LeO.ite ?_ ?_
   | refine LeO.bind ?_ (fun _ => ?_)
  ·intro y0 y1 y2 y3 y4
   unfold backseatlaw05_ParseLetters.l1
   repeat' first
   | (with_reducible exact ih0 _ _ _)
   | (with_reducible exact ih1 _ _ _ _ _ _)
   | (with_reducible exact ih2 _ _ _ _)
   | (with_reducible exact ih3 _ _ _ _ _)
   | (with_reducible exact backseatref01_Text.mono _ _)
   | (with_reducible exact backseatref05_Like.mono _ _ _ _ _ _ _ _ _ _ _ _ _ _ _)
   | (with_reducible exact backseatref05_LikeParser.mono _ _ _ _ _ _ _ _ _ _ _ _ _)
   | (with_reducible exact parse_Like.mono _ _ _ _ _ _ _ _ _ _ _ _ _ _ _)
   | (with_reducible exact LeO.refl _)
   | (with_reducible exact LeO.none _)
   | (with_reducible refine LeO.ite ?_ ?_)
   | (with_reducible refine LeO.bind ?_ (fun _ => ?_))
   | exact ih0 _ _ _
   | exact ih1 _ _ _ _ _ _
   | exact ih2 _ _ _ _
   | exact ih3 _ _ _ _ _
   | exact backseatref01_Text.mono _ _
   | exact backseatref05_Like.mono _ _ _ _ _ _ _ _ _ _ _ _ _ _ _
   | exact backseatref05_LikeParser.mono _ _ _ _ _ _ _ _ _ _ _ _ _
   | exact parse_Like.mono _ _ _ _ _ _ _ _ _ _ _ _ _ _ _
   | exact LeO.none _
   | refine LeO.ite ?_ ?_
   | refine LeO.bind ?_ (fun _ => ?_)
theorem backseatlaw05_ParseLetters.mono : ∀ a0 a1 a2 a3 a4 a5 a6 a7 a8 a9 a10 a11 a12 a13 a14 a15 k, LeO (backseatlaw05_ParseLetters.f k a0 a1 a2 a3 a4 a5 a6 a7 a8 a9 a10 a11 a12 a13 a14 a15) (backseatlaw05_ParseLetters.f (k + 1) a0 a1 a2 a3 a4 a5 a6 a7 a8 a9 a10 a11 a12 a13 a14 a15) := by
 intro a0 a1 a2 a3 a4 a5 a6 a7 a8 a9 a10 a11 a12 a13 a14 a15 k
 obtain ⟨ih0, ih1, ih2, ih3⟩ := backseatlaw05_ParseLetters.mono_l k
 unfold backseatlaw05_ParseLetters.f
 repeat' first
  | (with_reducible exact ih0 _ _ _)
  | (with_reducible exact ih1 _ _ _ _ _ _)
  | (with_reducible exact ih2 _ _ _ _)
  | (with_reducible exact ih3 _ _ _ _ _)
  | (with_reducible exact backseatref01_Text.mono _ _)
  | (with_reducible exact backseatref05_Like.mono _ _ _ _ _ _ _ _ _ _ _ _ _ _ _)
  | (with_reducible exact backseatref05_LikeParser.mono _ _ _ _ _ _ _ _ _ _ _ _ _)
  | (with_reducible exact parse_Like.mono _ _ _ _ _ _ _ _ _ _ _ _ _ _ _)
  | (with_reducible exact LeO.refl _)
  | (with_reducible exact LeO.none _)
  | (with_reducible refine LeO.ite ?_ ?_)
  | (with_reducible refine LeO.bind ?_ (fun _ => ?_))
  | exact ih0 _ _ _
  | exact ih1 _ _ _ _ _ _
  | exact ih2 _ _ _ _
  | exact ih3 _ _ _ _ _
  | exact backseatref01_Text.mono _ _
  | exact backseatref05_Like.mono _ _ _ _ _ _ _ _ _ _ _ _ _ _ _
  | exact backseatref05_LikeParser.mono _ _ _ _ _ _ _ _ _ _ _ _ _
  | exact parse_Like.mono _ _ _ _ _ _ _ _ _ _ _ _ _ _ _
  | exact LeO.none _
  | refine LeO.ite ?_ ?_
  | refine LeO.bind ?_ (fun _ => ?_)
def backseatlaw05_ParseLetters.T2 : Bool × List (List Nat × List Nat) := (true, [([], []), ([], []), ([0, 1], [0, 1]), ([], []), ([], []), ([3, 4, 2], [3, 4]), ([2, 5], [2, 5]), ([6, 5], [6]), ([7], [7]), ([7], [7]), ([8, 9, 7, 7], [7, 8, 9]), ([10, 7], [7, 10]), ([7, 11], [7, 11]), ([12, 10], [12]), ([13, 13], [13]), ([14, 13], [13, 14]), ([13, 15], [13, 15])])
def backseatlaw05_ParseLetters.B2 : List Nat := [0, 0, 3, 0, 0, 31, 63, 127, 255, 255, 1023, 2047, 4095, 8191, 16383, 32767, 65535]
theorem backseatlaw05_ParseLetters.tab2 : rtab .any (opsOf Tryd.f11 2) = backseatlaw05_ParseLetters.T2 := by kernel_rfl
theorem backseatlaw05_ParseLetters.bits2 : waitsOk backseatlaw05_ParseLetters.T2.2 backseatlaw05_ParseLetters.B2 = true := by kernel_rfl
def backseatlaw05_ParseLetters.T18 : Bool × List (List Nat × List Nat) := (true, [([], []), ([], []), ([], []), ([1, 2], [1, 2]), ([3], [3]), ([4], [4]), ([0, 5], [0, 5]), ([6], [6])])
def backseatlaw05_ParseLetters.B18 : List Nat := [0, 0, 0, 6, 14, 30, 63, 127]
theorem backseatlaw05_ParseLetters.tab18 : rtab .any (opsOf Tryd.f11 18) = backseatlaw05_ParseLetters.T18 := by kernel_rfl
theorem backseatlaw05_ParseLetters.bits18 : waitsOk backseatlaw05_ParseLetters.T18.2 backseatlaw05_ParseLetters.B18 = true := by kernel_rfl
end Go.Proofs.YthipdgnbpdngpaaDoor.S
end
section
namespace Go.Proofs.YthipdgnbpdngpaaDoor
open Go.RowKit Go.Proofs.YthipdgnbpdngpaaDoorW.PrintWords S
set_option linter.unusedVariables false
set_option linter.unusedSimpArgs false
/-- q, with d ahead of what is done. -/
def ahead (d : List S62) (q : S52 × List S62) : S52 × List S62 := (q.1, d ++ q.2)
def Appends (f : S52 → List S62 → S52 × List S62) : Prop := ∀ p d, f p d = ahead d (f p [])
theorem ahead_nil (p : S52) (d : List S62) : (p, d) = ahead d (p, []) := by unfold ahead; rw [List.append_nil]
theorem ends_app (p : S52) (d : List S62) (c l : Int) : endsD p d c l = d ++ endsD p [] c l := by
  unfold endsD
  split
  · rfl
  · rw [List.append_nil]
theorem inter_app (p : S52) (d : List S62) (c : Int) : interD p d c = d ++ interD p [] c := by
  unfold interD
  split
  · rw [List.append_nil]
  · exact ends_app p d c 48
theorem behind_app (p : S52) (d : List S62) (c : Int) : behindD p d c = d ++ behindD p [] c := by
  unfold behindD
  split
  · rfl
  · rw [List.append_nil]
theorem csi_app (p : S52) (d : List S62) (c : Int) : csiD p d c = d ++ csiD p [] c := by
  unfold csiD
  split
  · rfl
  · rw [List.append_nil]
theorem esc_app (p : S52) (d : List S62) (c : Int) : escR p d c = ahead d (escR p [] c) := by
  unfold escR
  repeat' split
  any_goals exact ahead_nil _ d
  unfold ahead
  rw [ends_app]
theorem osc_app (p : S52) (d : List S62) (c : Int) : oscR p d c = ahead d (oscR p [] c) := by
  unfold oscR
  repeat' split
  · rfl
  · exact ahead_nil _ d
  · exact ahead_nil _ d
theorem state_app {pend : S52 → List S62 → S52 × List S62} (hP : Appends pend) (p : S52) (d : List S62) (c : Int) : stateR pend p d c = ahead d (stateR pend p [] c) := by
  unfold stateR
  split
  · unfold groundR
    split
    · exact hP _ d
    split
    · rfl
    · exact ahead_nil _ d
  split
  · exact esc_app p d c
  split
  · show (interP p c, interD p d c) = (interP p c, d ++ interD p [] c); rw [inter_app]
  split
  · show (csiP p c, csiD p d c) = (csiP p c, d ++ csiD p [] c); rw [csi_app]
  split
  · show (behindP p c, behindD p d c) = (behindP p c, d ++ behindD p [] c); rw [behind_app]
  split
  · exact ahead_nil _ d
  split
  · exact osc_app p d c
  split
  · exact ahead_nil _ d
  · exact ahead_nil _ d
theorem take_app {pend : S52 → List S62 → S52 × List S62} (hP : Appends pend) (p : S52) (d : List S62) (c : Int) : takeR pend p d c = ahead d (takeR pend p [] c) := by
  unfold takeR
  split
  · exact hP _ d
  split
  · unfold ahead
    by_cases h : p.f0 = 6 ∨ p.f0 = 7
    · simp only [if_pos h]; rw [List.append_nil]
    · simp only [if_neg h]; rfl
  split
  · unfold ahead
    by_cases h : p.f0 = 6
    · simp only [if_pos h]; rfl
    · simp only [if_neg h]; rw [List.append_nil]
  split
  · rfl
  · exact state_app hP p d c
theorem ahead_ahead (d e : List S62) (q : S52 × List S62) : ahead d (ahead e q) = ahead (d ++ e) q := by unfold ahead; rw [List.append_assoc]
theorem run_app {pend : S52 → List S62 → S52 × List S62} (hP : Appends pend) (l : List UInt8) : ∀ (p : S52) (d : List S62), runT (takeR pend) (p, d) l = ahead d (runT (takeR pend) (p, []) l) := by
  induction l with
  | nil => intro p d; exact ahead_nil p d
  | cons b l ih =>
    intro p d
    have e : ∀ d', runT (takeR pend) (p, d') (b :: l) = runT (takeR pend) (takeR pend p d' (b.toNat : Int)) l := fun _ => rfl
    rw [e, e, take_app hP]
    generalize takeR pend p [] (b.toNat : Int) = q
    obtain ⟨p1, d1⟩ := q
    show runT (takeR pend) (p1, d ++ d1) l = ahead d (runT (takeR pend) (p1, d1) l)
    rw [ih p1 (d ++ d1), ih p1 d1, ahead_ahead]
theorem pend_app : ∀ k, Appends (pendR k) := by
  intro k
  induction k with
  | zero => intro p d; exact ahead_nil p d
  | succ k ih =>
    intro p d
    unfold pendR
    split
    · exact ahead_nil p d
    split
    · unfold ahead
      by_cases h : 160 ≤ (firstL p.f5.data.toList).1
      · simp only [if_pos h]; rfl
      · simp only [if_neg h]; rw [List.append_nil]
    · have h1 := run_app ih (p.f5.data.toList.drop (firstL p.f5.data.toList).2.1.toNat) (pendAs p ⟨#[]⟩) (d ++ [pr 65533])
      have h2 := run_app ih (p.f5.data.toList.drop (firstL p.f5.data.toList).2.1.toNat) (pendAs p ⟨#[]⟩) ([] ++ [pr 65533])
      unfold runT at h1 h2
      rw [h1, h2, ahead_ahead]
      rfl
theorem run_two (st : S52 × List S62) (a b : List UInt8) : runT (takeR (pendR 4)) st (a ++ b) = runT (takeR (pendR 4)) (runT (takeR (pendR 4)) st a) b := by unfold runT; rw [List.foldl_append]
/-- Fed in two parts. -/
theorem feed_two (p : S52) (s t : ByteArray) : feedR p (s ++ t) = ahead (feedR p s).2 (feedR (feedR p s).1 t) := by
  unfold feedR
  rw [show (s ++ t).data.toList = s.data.toList ++ t.data.toList by rw [ByteArray.data_append, Array.toList_append], run_two]
  generalize runT (takeR (pendR 4)) (p, []) s.data.toList = q
  obtain ⟨p1, d1⟩ := q
  exact run_app (pend_app 4) t.data.toList p1 d1
theorem w64' {i : Int} (h0 : 0 ≤ i) (h1 : i ≤ 1000000000000000000) : wrap64 i = i := by unfold wrap64; omega
theorem same_loop (l : List Int) (hl : l.length ≤ 100000) : ∀ (m i k : Nat), i + m = l.length → m < k → backseatref05_same.l0 k l l (l.length : Int) (i : Int) = some true := by
  intro m
  induction m with
  | zero =>
    intro i k hi hk
    obtain ⟨k, rfl⟩ : ∃ k', k = k' + 1 := ⟨k - 1, by omega⟩
    unfold backseatref05_same.l0
    rw [if_neg (by omega)]
  | succ m ih =>
    intro i k hi hk
    obtain ⟨k, rfl⟩ : ∃ k', k = k' + 1 := ⟨k - 1, by omega⟩
    unfold backseatref05_same.l0
    rw [if_pos (by omega), if_pos (by omega), if_pos (by omega), if_pos (by omega), if_pos rfl, w64' (by omega) (by omega)]
    exact ih (i + 1) k (by omega) (by omega)
theorem same_refl (l : List Int) (k : Nat) (hl : l.length ≤ 100000) (hk : l.length < k) : backseatref05_same.f k l l = some true := by
  unfold backseatref05_same.f
  rw [if_pos rfl]
  exact same_loop l hl l.length 0 k (by omega) hk
theorem likeP_refl (p : S52) (k : Nat) (hl : p.f2.length ≤ 100000) (hk : p.f2.length < k) : backseatref05_LikeParser.f k p.f0 p.f1 p.f2 p.f3 p.f4 p.f5 p.f0 p.f1 p.f2 p.f3 p.f4 p.f5 = some true := by
  unfold backseatref05_LikeParser.f
  rw [if_pos rfl, if_pos rfl, same_refl _ k hl hk]
  simp
theorem like_refl (x : S62) (k : Nat) (hl : x.f4.length ≤ 100000) (hk : x.f4.length < k) : backseatref05_Like.f k x.f0 x.f1 x.f2 x.f3 x.f4 x.f5 x.f6 x.f0 x.f1 x.f2 x.f3 x.f4 x.f5 x.f6 = some true := by
  unfold backseatref05_Like.f
  rw [if_pos rfl, if_pos rfl, if_pos rfl, if_pos rfl, same_refl _ k hl hk]
  simp
theorem feed_ok (p : S52) (s : ByteArray) (hs : s.size ≤ 1000000) (h : rightP p) : parse_Feed.f p.f0 p.f1 p.f2 p.f3 p.f4 p.f5 s = some (feedT (feedR p s) 0) := by
  unfold parse_Feed.f
  rw [if_pos hs]
  exact if_pos ((right_iff p).2 h)
theorem alive_run : feedR (toF 0) ⟨#[27, 91, 49, 59, 51, 49, 109, 65]⟩ = (toF 0, [⟨4, 0, 109, 0, [1, 31], 0, ⟨#[]⟩⟩, pr 65]) := by kernel_rfl
theorem alive_go5 : backseatlaw05_alive.f = some true := by
  unfold backseatlaw05_alive.f
  rw [show parse_Feed.f 0 0 ([] : List Int) 0 (⟨#[]⟩ : ByteArray) (⟨#[]⟩ : ByteArray) (⟨#[27, 91, 49, 59, 51, 49, 109, 65]⟩ : ByteArray) = some (feedT (feedR (toF 0) ⟨#[27, 91, 49, 59, 51, 49, 109, 65]⟩) 0) from feed_ok (toF 0) _ (by decide) (right_to 0 (.inl rfl)), alive_run]
  rfl
theorem mn_le (n : Nat) (m : Int) (h : 0 ≤ m) : 0 ≤ mn (n : Int) m ∧ mn (n : Int) m ≤ n ∧ mn (n : Int) m ≤ m := by unfold mn; omega
end Go.Proofs.YthipdgnbpdngpaaDoor
end
section
namespace Go.Proofs.YthipdgnbpdngpaaDoor
open Go.RowKit Go.Lib Go.Proofs.YthipdgnbpdngpaaDoorW.PrintWords Go.Proofs.YthipdgnbpdngpaaDoorW.PrintLast
/-- The slice v of bytes xs lies at the head of a row of its own, in a block from base on, whose cells may be written. -/
def OwnM (w : World) (base : Nat) (e : TypeId) (v : Value) (xs : List Int) : Prop :=
  ∃ (g cap : Nat) (cur : Array Value) (fz : Nat × Nat), v = .slice (some ⟨g, 0, none⟩) xs.length cap ∧ base ≤ g ∧ w.heap[g]? = some (.cells cur e fz) ∧ (fz = (0, 0) ∨ cur.size ≤ fz.1) ∧ xs.length ≤ cap ∧ cap ≤ maxLen ∧ cur.size = cap ∧ ∀ j, j < xs.length → cur[j]? = some (.int .u8 (xs.getD j 0))
theorem OwnM.kept {w w' : World} {base : Nat} {e : TypeId} {v : Value} {xs : List Int} (h : OwnM w base e v xs) {row : Option Nat} (hg : w.grownBy w' row) (hne : v.ownBlock ≠ row) : OwnM w' base e v xs := by
  obtain ⟨g, cap, cur, fz, rfl, hb, hgg, r⟩ := h
  refine ⟨g, cap, cur, fz, rfl, hb, ?_, r⟩
  rw [hg.block g (Array.getElem?_eq_some_iff.1 hgg).1 (by simpa [Value.ownBlock] using hne)]
  exact hgg
theorem OwnM.below {w w' : World} {base : Nat} {e : TypeId} {v : Value} {xs : List Int} (h : OwnM w base e v xs) (hb : Below w.heap.size w w') : OwnM w' base e v xs := by
  obtain ⟨g, cap, cur, fz, rfl, hbb, hgg, r⟩ := h
  exact ⟨g, cap, cur, fz, rfl, hbb, (hb.block g (Array.getElem?_eq_some_iff.1 hgg).1).trans hgg, r⟩
theorem OwnM.alloc {w : World} {base : Nat} {e : TypeId} {v : Value} {xs : List Int} (h : OwnM w base e v xs) (o : Obj) : OwnM (w.alloc o) base e v xs := h.below (Below.alloc (Below.refl _ _) (Nat.le_refl _) o)
theorem OwnM.slice {w : World} {base : Nat} {e : TypeId} {v : Value} {xs : List Int} (h : OwnM w base e v xs) : ∃ g cap, v = .slice (some ⟨g, 0, none⟩) xs.length cap := by
  obtain ⟨g, cap, cur, fz, rfl, _⟩ := h
  exact ⟨g, cap, rfl⟩
theorem OwnM.string {P : Program} {w : World} {base : Nat} {e' src dst e : TypeId} {v : Value} {xs : List Int} (hs : P.underlying src = some (.slice e)) (he : P.underlying e = some (.int .u8)) (hd : P.underlying dst = some .string)
    (h : OwnM w base e' v xs) : (convert src dst v).run P w = .ok (.string (strOfNums xs)) w := by
  obtain ⟨g, cap, cur, fz, rfl, hb, hg, _, _, _, hc, hx⟩ := h
  refine run_convert_bytes_arg w src e hs he g 0 xs.length cap xs rfl (fun i hi => ?_) dst hd
  rw [Nat.zero_add, cell_of_row w g i cur e' fz hg]
  exact hx i hi
end Go.Proofs.YthipdgnbpdngpaaDoor
end
