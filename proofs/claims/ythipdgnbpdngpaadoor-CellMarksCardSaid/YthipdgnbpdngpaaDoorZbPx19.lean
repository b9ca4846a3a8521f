-- A copy of the text YthipdgnbpdngpaaDoorPx19 with what this claim does not reach left out (prune.py, a program of this project).
import Derived.Test.YthipdgnbpdngpaaDoorZbPx0
import Derived.Test.YthipdgnbpdngpaaDoorZbPx2
import Derived.Test.YthipdgnbpdngpaaDoorZbPx9
import Derived.Test.YthipdgnbpdngpaaDoorZbPx11
import Derived.Test.YthipdgnbpdngpaaDoorZbPx12
import Derived.Test.YthipdgnbpdngpaaDoorZbPx14
import Derived.Test.YthipdgnbpdngpaaDoorZbPx17
import Derived.Test.YthipdgnbpdngpaaDoorZbGShort
namespace Go.Proofs.YthipdgnbpdngpaaDoor.P
open Go.RowKit Go.Proofs.YthipdgnbpdngpaaDoor Go.Proofs.YthipdgnbpdngpaaDoorW.PrintWords Go.Proofs.YthipdgnbpdngpaaDoorW.PrintLast Go.Proofs.YthipdgnbpdngpaaDoorW.PrintMore
attribute [local go_sem] max2_int min2_int max_two min_two max_three min_three max_four min_four   -- for this text's walks alone
set_option linter.unusedVariables false
set_option linter.unusedSimpArgs false
attribute [local go_sem high] eqA40
def m8_0_ : Array Bool := mk_ 49 0
def m8_1_ : Array Bool := mk_ 49 1
def m8_2_ : Array Bool := mk_ 49 3
def m8_3_ : Array Bool := mk_ 49 7
def m8_4_ : Array Bool := mk_ 49 15
def m8_5_ : Array Bool := mk_ 49 47
def m8_6_ : Array Bool := mk_ 49 63
def m8_7_ : Array Bool := mk_ 49 127
def m8_8_ : Array Bool := mk_ 49 255
def m8_9_ : Array Bool := mk_ 49 511
def m8_10_ : Array Bool := mk_ 49 1023
def m8_11_ : Array Bool := mk_ 49 2047
def m8_12_ : Array Bool := mk_ 49 10239
def m8_13_ : Array Bool := mk_ 49 12287
def m8_14_ : Array Bool := mk_ 49 16383
def m8_15_ : Array Bool := mk_ 49 32767
def m8_16_ : Array Bool := mk_ 49 65535
def m8_17_ : Array Bool := mk_ 49 131071
def m8_18_ : Array Bool := mk_ 49 262143
def m8_19_ : Array Bool := mk_ 49 524287
def m8_20_ : Array Bool := mk_ 49 1048575
def m8_21_ : Array Bool := mk_ 49 3145727
def m8_22_ : Array Bool := mk_ 49 36700159
def m8_23_ : Array Bool := mk_ 49 37748735
def m8_24_ : Array Bool := mk_ 49 41943039
def m8_25_ : Array Bool := mk_ 49 50331647
def m8_26_ : Array Bool := mk_ 49 67108863
def m8_27_ : Array Bool := mk_ 49 134217727
def m8_28_ : Array Bool := mk_ 49 268435455
def m8_29_ : Array Bool := mk_ 49 536870911
def m8_30_ : Array Bool := mk_ 49 1073741823
def m8_31_ : Array Bool := mk_ 49 2147483647
def m8_32_ : Array Bool := mk_ 49 6442450943
def m8_33_ : Array Bool := mk_ 49 75161927679
def m8_34_ : Array Bool := mk_ 49 77309411327
def m8_35_ : Array Bool := mk_ 49 85899345919
def m8_36_ : Array Bool := mk_ 49 103079215103
def m8_37_ : Array Bool := mk_ 49 137438953471
def m8_38_ : Array Bool := mk_ 49 274877906943
def m8_39_ : Array Bool := mk_ 49 549755813887
def m8_40_ : Array Bool := mk_ 49 1099511627775
def m8_41_ : Array Bool := mk_ 49 2199023255551
def m8_42_ : Array Bool := mk_ 49 4398046511103
def m8_43_ : Array Bool := mk_ 49 8796093022207
def m8_44_ : Array Bool := mk_ 49 17592186044415
def m8_45_ : Array Bool := mk_ 49 35184372088831
def m8_46_ : Array Bool := mk_ 49 70368744177663
def m8_47_ : Array Bool := mk_ 49 140737488355327
def m8_48_ : Array Bool := mk_ 49 281474976710655
def m8_49_ : Array Bool := mk_ 49 562949953421311
def m8_50_ : Array Bool := mk_ 49 4294967295
def m8_51_ : Array Bool := mk_ 49 8589934591
def m8_52_ : Array Bool := mk_ 49 17179869183
def m8_53_ : Array Bool := mk_ 49 34359738367
def m8_54_ : Array Bool := mk_ 49 68719476735
def m8_55_ : Array Bool := mk_ 49 2097151
def m8_56_ : Array Bool := mk_ 49 4194303
def m8_57_ : Array Bool := mk_ 49 8388607
def m8_58_ : Array Bool := mk_ 49 16777215
def m8_59_ : Array Bool := mk_ 49 33554431
def m8_60_ : Array Bool := mk_ 49 4095
def m8_61_ : Array Bool := mk_ 49 8191
def m8_62_ : Array Bool := mk_ 49 31
def backseatlaw04_CellMarks.j0 : Nat → Int → Int → Int → Bool → ByteArray → Int → Int → Int → Int → ByteArray → Int → Int → Int → Int → Option (Bool)
 | 0, _, _, _, _, _, _, _, _, _, _, _, _, _, _ => none
 | k + 1, x2, x3, x16, x58, x364000, x364001, x364002, x364003, x364004, x384000, x384001, x384002, x384003, x384004 => if x58 = true then (some false) else (if x16 = 0 then ((cell_Mark.f k x384000 x384001 x384002 x384003 x384004 x2).bind fun bt386 => (if bt386.2.2.2.2.2 = 0 then ((cell_Mark.f k bt386.1 bt386.2.1 bt386.2.2.1 bt386.2.2.2.1 bt386.2.2.2.2.1 x3).bind fun bt393 => ((cell_Right.f k bt386.1 bt386.2.1 bt386.2.2.1 bt386.2.2.2.1 bt386.2.2.2.2.1).bind fun t400 => (if t400 = true then (if bt386.2.1 = x364001 then (if (bt386.1.size : Int) > (x384000.size : Int) then (if 0 ≤ (x384000.size : Int) then (if (x384000.size : Int) ≤ (bt386.1.size : Int) then (if (bt386.1.extract 0 ((x384000.size : Int) : Int).toNat).toList = x384000.toList then (if 0 ≤ (x364000.size : Int) then (if (x364000.size : Int) ≤ (x384000.size : Int) then (if (x384000.extract 0 ((x364000.size : Int) : Int).toNat).toList = x364000.toList then (if bt393.2.2.2.2.2 = 7 then (some true) else (some (bt393.2.2.2.2.2 == 1))) else (some false)) else (none)) else (none)) else (some false)) else (none)) else (none)) else (some false)) else (some false)) else (some false)))) else (some (bt386.2.2.2.2.2 == 1)))) else (some (x16 == 1)))
def backseatlaw04_CellMarks.f (k : Nat) (a0 : Int) (a1 : Int) (a2 : Int) (a3 : Int) (a4_0 : Int) (a4_1 : Int) (a4_2 : Int) : Option (Bool) := (cell_Of.f a0 a4_0 a4_1 a4_2).bind fun bt357 => (if bt357.2.2.2.2.2 = 0 then ((cell_Blank.f a4_0 a4_1 a4_2).bind fun bt365 => ((cell_Mark.f k bt365.1 bt365.2.1 bt365.2.2.1 bt365.2.2.2.1 bt365.2.2.2.2 a1).bind fun bt370 => ((cell_Mark.f k bt357.1 bt357.2.1 bt357.2.2.1 bt357.2.2.2.1 bt357.2.2.2.2.1 a1).bind fun bt377 => ((cell_Right.f k bt357.1 bt357.2.1 bt357.2.2.1 bt357.2.2.2.1 bt357.2.2.2.2.1).bind fun t384 => (if t384 = true then (if bt370.2.2.2.2.2 = 1 then ((backseatlaw04_alive.f k).bind fun t385 => (backseatlaw04_CellMarks.j0 k a2 a3 bt377.2.2.2.2.2 (!t385) bt357.1 bt357.2.1 bt357.2.2.1 bt357.2.2.2.1 bt357.2.2.2.2.1 bt377.1 bt377.2.1 bt377.2.2.1 bt377.2.2.2.1 bt377.2.2.2.2.1)) else (backseatlaw04_CellMarks.j0 k a2 a3 bt377.2.2.2.2.2 true bt357.1 bt357.2.1 bt357.2.2.1 bt357.2.2.2.1 bt357.2.2.2.2.1 bt377.1 bt377.2.1 bt377.2.2.1 bt377.2.2.2.1 bt377.2.2.2.2.1)) else (backseatlaw04_CellMarks.j0 k a2 a3 bt377.2.2.2.2.2 true bt357.1 bt357.2.1 bt357.2.2.1 bt357.2.2.2.1 bt357.2.2.2.2.1 bt377.1 bt377.2.1 bt377.2.2.1 bt377.2.2.2.1 bt377.2.2.2.2.1)))))) else ((backseatlaw04_alive.f k).bind fun t364 => (if t364 = true then (some (bt357.1.toList == ([] : List UInt8) && (bt357.2.1 == 0 && ((bt357.2.2.1 == 0 && (bt357.2.2.2.1 == 0 && (bt357.2.2.2.2.1 == 0))))))) else (some false))))
theorem backseatlaw04_CellMarks.mono_l : ∀ k, (∀ y0 y1 y2 y3 y4 y5 y6 y7 y8 y9 y10 y11 y12 y13, LeO (backseatlaw04_CellMarks.j0 k y0 y1 y2 y3 y4 y5 y6 y7 y8 y9 y10 y11 y12 y13) (backseatlaw04_CellMarks.j0 (k + 1) y0 y1 y2 y3 y4 y5 y6 y7 y8 y9 y10 y11 y12 y13))
 | 0 => fun _ _ _ _ _ _ _ _ _ _ _ _ _ _ r h => by simp [backseatlaw04_CellMarks.j0] at h
 | k + 1 => by
  have ih0 := backseatlaw04_CellMarks.mono_l k
  ·intro y0 y1 y2 y3 y4 y5 y6 y7 y8 y9 y10 y11 y12 y13
   unfold backseatlaw04_CellMarks.j0
   repeat' first
   | (with_reducible exact ih0 _ _ _ _ _ _ _ _ _ _ _ _ _ _)
   | (with_reducible exact backseatlaw04_alive.mono _)
   | (with_reducible exact cell_Mark.mono _ _ _ _ _ _ _)
   | (with_reducible exact cell_Right.mono _ _ _ _ _ _)
   | (with_reducible exact LeO.refl _)
   | (with_reducible exact LeO.none _)
   | (with_reducible refine LeO.ite ?_ ?_)
   | (with_reducible refine LeO.bind ?_ (fun _ => ?_))
   | exact ih0 _ _ _ _ _ _ _ _ _ _ _ _ _ _
   | exact backseatlaw04_alive.mono _
   | exact cell_Mark.mono _ _ _ _ _ _ _
   | exact cell_Right.mono _ _ _ _ _ _
   | exact LeO.none _
   | refine LeO.ite ?_ ?_
   | refine LeO.bind ?_ (fun _ => ?_)
theorem backseatlaw04_CellMarks.mono : ∀ a0 a1 a2 a3 a4 a5 a6 k, LeO (backseatlaw04_CellMarks.f k a0 a1 a2 a3 a4 a5 a6) (backseatlaw04_CellMarks.f (k + 1) a0 a1 a2 a3 a4 a5 a6) := by
 intro a0 a1 a2 a3 a4 a5 a6 k
 have ih0 := backseatlaw04_CellMarks.mono_l k
 unfold backseatlaw04_CellMarks.f
 repeat' first
   | (with_reducible exact ih0 _ _ _ _ _ _ _ _ _ _ _ _ _ _)
   | (with_reducible exact backseatlaw04_alive.mono _)
   | (with_reducible exact cell_Mark.mono _ _ _ _ _ _ _)
   | (with_reducible exact cell_Right.mono _ _ _ _ _ _)
   | (with_reducible exact LeO.refl _)
   | (with_reducible exact LeO.none _)
   | (with_reducible refine LeO.ite ?_ ?_)
   | (with_reducible refine LeO.bind ?_ (fun _ => ?_))
   | exact ih0 _ _ _ _ _ _ _ _ _ _ _ _ _ _
   | exact backseatlaw04_alive.mono _
   | exact cell_Mark.mono _ _ _ _ _ _ _
   | exact cell_Right.mono _ _ _ _ _ _
   | exact LeO.none _
   | refine LeO.ite ?_ ?_
   | refine LeO.bind ?_ (fun _ => ?_)
def backseatlaw04_CellMarks.T14 : Bool × List (List Nat × List Nat) := (true, [([], []), ([0], [0]), ([1, 1], [1]), ([2], [2]), ([3, 2], [2, 3]), ([2], [2]), ([5, 2], [2, 5]), ([4, 6, 2], [2, 4, 6]), ([2, 7], [2, 7]), ([8, 2], [8]), ([9], [9]), ([10, 9], [9, 10]), ([11, 9], [9, 11]), ([9], [9]), ([13, 9], [9, 13]), ([14, 9], [9, 14]), ([12, 15, 9], [9, 12, 15]), ([9, 16], [9, 16]), ([17, 9], [17]), ([18], [18]), ([19, 18], [18, 19]), ([18], [18]), ([21, 18], [18, 21]), ([22, 18], [18, 22]), ([20, 23, 18], [18, 20, 23]), ([18], [18]), ([25, 18], [18, 25]), ([24, 26, 18], [18, 24, 26]), ([18, 27], [18, 27]), ([28, 18], [28]), ([29], [29]), ([30, 29], [29, 30]), ([29], [29]), ([32, 29], [29, 32]), ([33, 29], [29, 33]), ([31, 34, 29], [29, 31, 34]), ([29], [29]), ([36, 29], [29, 36]), ([35, 37, 29], [29, 35, 37]), ([29, 38], [29, 38]), ([39, 29], [39]), ([40], [40]), ([41, 40], [40, 41]), ([42, 40, 40], [40, 42]), ([43], [43]), ([44, 43], [43, 44]), ([43, 45, 40], [40, 43, 45]), ([40, 46], [40, 46]), ([47, 43, 0, 1, 2, 3, 4, 5, 6, 7, 8, 9, 10, 11, 12, 13, 14, 15, 16, 17, 18, 19, 20, 21, 22, 23, 24, 25, 26, 27, 28, 29, 30, 31, 32, 33, 34, 35, 36, 37, 38, 39, 40, 41, 42, 43, 44, 45, 46, 47], [47])])
def backseatlaw04_CellMarks.B14 : List Nat := [0, 1, 3, 7, 15, 7, 39, 127, 255, 511, 1023, 2047, 4095, 1023, 9215, 25599, 65535, 131071, 262143, 524287, 1048575, 524287, 2621439, 6815743, 16777215, 524287, 34078719, 134217727, 268435455, 536870911, 1073741823, 2147483647, 1073741823, 5368709119, 13958643711, 34359738367, 1073741823, 69793218559, 274877906943, 549755813887, 1099511627775, 2199023255551, 4398046511103, 8796093022207, 17592186044415, 35184372088831, 70368744177663, 140737488355327, 281474976710655]
theorem backseatlaw04_CellMarks.tab14 : rtab .any (opsOf Tryd.f8 14) = backseatlaw04_CellMarks.T14 := by kernel_rfl
theorem backseatlaw04_CellMarks.bits14 : waitsOk backseatlaw04_CellMarks.T14.2 backseatlaw04_CellMarks.B14 = true := by kernel_rfl
set_option maxHeartbeats 8000000 in
set_option maxRecDepth 100000 in
theorem backseatlaw04_CellMarks.calls (k : Nat) (a0 : Int) (a1 : Int) (a2 : Int) (a3 : Int) (a4_0 : Int) (a4_1 : Int) (a4_2 : Int) (r : Bool) (w : World) (h : backseatlaw04_CellMarks.f k a0 a1 a2 a3 a4_0 a4_1 a4_2 = some r) (hT : TabsAt w := by first | with_reducible assumption | exact tabs_here (by with_reducible assumption) (by repeat (with_reducible first | assumption | apply below_alloc | apply pw_below_drewN | apply below_drew1 | (refine Below.setCell ?_ ?_ _) | exact Aside0.out (by assumption)))) :
  Calls Tryd.prog 8 #[.int .i32 a0, .int .i32 a1, .int .i32 a2, .int .i32 a3, .agg #[.int .i64 a4_0, .int .i64 a4_1, .int .i64 a4_2]] w fun e w' => e = .returned (.bool r) ∧ Below w.heap.size w w' := by
 have hu38 := Tryd.underlying38
 have hu40 := Tryd.underlying40
 have HB := Aside0.mk (Below.refl w.heap.size w)
 have H : ((cell_Of.f a0 a4_0 a4_1 a4_2).bind fun bt357 => (if bt357.2.2.2.2.2 = 0 then ((cell_Blank.f a4_0 a4_1 a4_2).bind fun bt365 => ((cell_Mark.f k bt365.1 bt365.2.1 bt365.2.2.1 bt365.2.2.2.1 bt365.2.2.2.2 a1).bind fun bt370 => ((cell_Mark.f k bt357.1 bt357.2.1 bt357.2.2.1 bt357.2.2.2.1 bt357.2.2.2.2.1 a1).bind fun bt377 => ((cell_Right.f k bt357.1 bt357.2.1 bt357.2.2.1 bt357.2.2.2.1 bt357.2.2.2.2.1).bind fun t384 => (if t384 = true then (if bt370.2.2.2.2.2 = 1 then ((backseatlaw04_alive.f k).bind fun t385 => (backseatlaw04_CellMarks.j0 k a2 a3 bt377.2.2.2.2.2 (!t385) bt357.1 bt357.2.1 bt357.2.2.1 bt357.2.2.2.1 bt357.2.2.2.2.1 bt377.1 bt377.2.1 bt377.2.2.1 bt377.2.2.2.1 bt377.2.2.2.2.1)) else (backseatlaw04_CellMarks.j0 k a2 a3 bt377.2.2.2.2.2 true bt357.1 bt357.2.1 bt357.2.2.1 bt357.2.2.2.1 bt357.2.2.2.2.1 bt377.1 bt377.2.1 bt377.2.2.1 bt377.2.2.2.1 bt377.2.2.2.2.1)) else (backseatlaw04_CellMarks.j0 k a2 a3 bt377.2.2.2.2.2 true bt357.1 bt357.2.1 bt357.2.2.1 bt357.2.2.2.1 bt357.2.2.2.2.1 bt377.1 bt377.2.1 bt377.2.2.1 bt377.2.2.2.1 bt377.2.2.2.2.1)))))) else ((backseatlaw04_alive.f k).bind fun t364 => (if t364 = true then (some (bt357.1.toList == ([] : List UInt8) && (bt357.2.1 == 0 && ((bt357.2.2.1 == 0 && (bt357.2.2.2.1 == 0 && (bt357.2.2.2.2.1 == 0))))))) else (some false))))) = some r := h
 clear h
 replace H := Option.bind_eq_some_iff.mp H
 obtain ⟨⟨t357, t358, t359, t360, t361, t362⟩, A60, H⟩ := H
 replace H : (if t362 = 0 then ((cell_Blank.f a4_0 a4_1 a4_2).bind fun bt365 => ((cell_Mark.f k bt365.1 bt365.2.1 bt365.2.2.1 bt365.2.2.2.1 bt365.2.2.2.2 a1).bind fun bt370 => ((cell_Mark.f k t357 t358 t359 t360 t361 a1).bind fun bt377 => ((cell_Right.f k t357 t358 t359 t360 t361).bind fun t384 => (if t384 = true then (if bt370.2.2.2.2.2 = 1 then ((backseatlaw04_alive.f k).bind fun t385 => (backseatlaw04_CellMarks.j0 k a2 a3 bt377.2.2.2.2.2 (!t385) t357 t358 t359 t360 t361 bt377.1 bt377.2.1 bt377.2.2.1 bt377.2.2.2.1 bt377.2.2.2.2.1)) else (backseatlaw04_CellMarks.j0 k a2 a3 bt377.2.2.2.2.2 true t357 t358 t359 t360 t361 bt377.1 bt377.2.1 bt377.2.2.1 bt377.2.2.2.1 bt377.2.2.2.2.1)) else (backseatlaw04_CellMarks.j0 k a2 a3 bt377.2.2.2.2.2 true t357 t358 t359 t360 t361 bt377.1 bt377.2.1 bt377.2.2.1 bt377.2.2.2.1 bt377.2.2.2.2.1)))))) else ((backseatlaw04_alive.f k).bind fun t364 => (if t364 = true then (some (t357.toList == ([] : List UInt8) && (t358 == 0 && ((t359 == 0 && (t360 == 0 && (t361 == 0))))))) else (some false)))) = some r := H
 have A6 := Aside0.mk A60
 clear A60
 by_cases c7 : t362 = 0
 ·rw [if_pos c7] at H
  have c7b0 : (t362 == 0) = true := beq_iff_eq.mpr c7
  have c7b1 : (t362 != 0) = false := bne_eq_false_iff_eq.mpr c7
  clear c7
  replace H := Option.bind_eq_some_iff.mp H
  obtain ⟨⟨t365, t366, t367, t368, t369⟩, A80, H⟩ := H
  replace H : ((cell_Mark.f k t365 t366 t367 t368 t369 a1).bind fun bt370 => ((cell_Mark.f k t357 t358 t359 t360 t361 a1).bind fun bt377 => ((cell_Right.f k t357 t358 t359 t360 t361).bind fun t384 => (if t384 = true then (if bt370.2.2.2.2.2 = 1 then ((backseatlaw04_alive.f k).bind fun t385 => (backseatlaw04_CellMarks.j0 k a2 a3 bt377.2.2.2.2.2 (!t385) t357 t358 t359 t360 t361 bt377.1 bt377.2.1 bt377.2.2.1 bt377.2.2.2.1 bt377.2.2.2.2.1)) else (backseatlaw04_CellMarks.j0 k a2 a3 bt377.2.2.2.2.2 true t357 t358 t359 t360 t361 bt377.1 bt377.2.1 bt377.2.2.1 bt377.2.2.2.1 bt377.2.2.2.2.1)) else (backseatlaw04_CellMarks.j0 k a2 a3 bt377.2.2.2.2.2 true t357 t358 t359 t360 t361 bt377.1 bt377.2.1 bt377.2.2.1 bt377.2.2.2.1 bt377.2.2.2.2.1))))) = some r := H
  have A8 := Aside0.mk A80
  clear A80
  replace H := Option.bind_eq_some_iff.mp H
  obtain ⟨⟨t370, t371, t372, t373, t374, t375⟩, A90, H⟩ := H
  replace H : ((cell_Mark.f k t357 t358 t359 t360 t361 a1).bind fun bt377 => ((cell_Right.f k t357 t358 t359 t360 t361).bind fun t384 => (if t384 = true then (if t375 = 1 then ((backseatlaw04_alive.f k).bind fun t385 => (backseatlaw04_CellMarks.j0 k a2 a3 bt377.2.2.2.2.2 (!t385) t357 t358 t359 t360 t361 bt377.1 bt377.2.1 bt377.2.2.1 bt377.2.2.2.1 bt377.2.2.2.2.1)) else (backseatlaw04_CellMarks.j0 k a2 a3 bt377.2.2.2.2.2 true t357 t358 t359 t360 t361 bt377.1 bt377.2.1 bt377.2.2.1 bt377.2.2.2.1 bt377.2.2.2.2.1)) else (backseatlaw04_CellMarks.j0 k a2 a3 bt377.2.2.2.2.2 true t357 t358 t359 t360 t361 bt377.1 bt377.2.1 bt377.2.2.1 bt377.2.2.2.1 bt377.2.2.2.2.1)))) = some r := H
  have A9 := Aside0.mk A90
  clear A90
  replace H := Option.bind_eq_some_iff.mp H
  obtain ⟨⟨t377, t378, t379, t380, t381, t382⟩, A100, H⟩ := H
  replace H : ((cell_Right.f k t357 t358 t359 t360 t361).bind fun t384 => (if t384 = true then (if t375 = 1 then ((backseatlaw04_alive.f k).bind fun t385 => (backseatlaw04_CellMarks.j0 k a2 a3 t382 (!t385) t357 t358 t359 t360 t361 t377 t378 t379 t380 t381)) else (backseatlaw04_CellMarks.j0 k a2 a3 t382 true t357 t358 t359 t360 t361 t377 t378 t379 t380 t381)) else (backseatlaw04_CellMarks.j0 k a2 a3 t382 true t357 t358 t359 t360 t361 t377 t378 t379 t380 t381))) = some r := H
  have A10 := Aside0.mk A100
  clear A100
  have HC11 := Aside0.mk H
  clear H
  go_enter Tryd.func8, Tryd.ntmps8
  go_upto_region 6 with (first | ((with_reducible refine gate_dst (N := 9) rfl ?_); (try (refine gate_guard (by rfl) ?_; dsimp only)); refine box_event ?hg (N := 9) ?hd (cs := #[.int .i64 a4_0, .int .i64 a4_1, .int .i64 a4_2]) (t := 38) ?hr ?_; (case hd => rfl); (case hg => rfl); (case hr => first | (go_simp; done) | (go_simp; rfl)); intro gb356 hg w12 hbox hb; have BK356 := Aside0.mk (hbox); have GW356 := Aside0.mk ((by rw [hg]; exact (below_size (by first | exact HB.out | exact pw_below_drewN HB.out _ | exact below_drew1 HB.out)) : w.heap.size ≤ gb356)); have GE356 := GW356; replace HB := Aside0.mk (below_step (by first | exact HB.out | exact pw_below_drewN HB.out _ | exact below_drew1 HB.out) hb); clear hb hbox hg; obtain ⟨hcz13_0, hcz13_1, hcz13_2, hfz13_0, hfz13_1, hfz13_2⟩ := cz3 BK356.out) | ((with_reducible refine gate_callee (f := 23) rfl ?_); refine goesL_ (some 24) rfl rfl Tryd.func23 (by kernel_rfl) rfl #[.int .i32 a0, .agg #[.int .i64 a4_0, .int .i64 a4_1, .int .i64 a4_2]] rfl (by (try simp only [List.map_toArray, List.map_cons, List.map_nil]); first | done | rfl | (simp only [List.length_drop, List.length_take]; rfl)) ?_; (with_reducible refine (cell_Of.calls a0 a4_0 a4_1 a4_2 t357 t358 t359 t360 t361 t362 _ A6.out).mono ?_); rintro e w14 ⟨rfl, hb⟩; refine ⟨_, rfl, ?_⟩; replace BK356 := Aside0.mk (bb hb BK356.out); replace HB := Aside0.mk (below_step (by repeat first | refine below_set ?_ GE356.out | exact HB.out | apply below_alloc | apply pw_below_drewN | apply below_drew1) hb); (try clear hb); (try clear hb2); (try clear hk); (try clear hi)) | ((with_reducible refine gate_dst (N := 11) rfl ?_); (try (refine gate_guard (by rfl) ?_; dsimp only)); refine box_event ?hg (N := 11) ?hd (cs := #[.string (⟨#[]⟩ : ByteArray), .int .i64 0, .int .i64 0, .int .i64 0, .int .i64 0]) (t := 40) ?hr ?_; (case hd => rfl); (case hg => rfl); (case hr => first | (go_simp; done) | (go_simp; rfl)); intro gb363 hg w15 hbox hb; have BK363 := Aside0.mk (hbox); have GW363 := Aside0.mk ((by rw [hg]; exact (below_size (by repeat first | refine below_set ?_ GE356.out | exact HB.out | apply below_alloc | apply pw_below_drewN | apply below_drew1)) : w.heap.size ≤ gb363)); have GE363 := GW363; have NB356_363 := Aside0.mk ((by rw [hg]; exact lt1 BK356.out : gb356 ≠ gb363)); have NB363_356 := Aside0.mk ((by rw [hg]; exact gt1 BK356.out : gb363 ≠ gb356)); replace BK356 := Aside0.mk (bb hb BK356.out); replace HB := Aside0.mk (below_step (by repeat first | refine below_set ?_ GE356.out | exact HB.out | apply below_alloc | apply pw_below_drewN | apply below_drew1) hb); clear hb hbox hg; have hnb16 := NB363_356.out; have hnc16 := NB356_363.out; obtain ⟨hcz17_0, hcz17_1, hcz17_2, hcz17_3, hcz17_4, hfz17_0, hfz17_1, hfz17_2, hfz17_3, hfz17_4⟩ := cz5 BK363.out; obtain ⟨hcz18_0, hcz18_1, hcz18_2, hfz18_0, hfz18_1, hfz18_2⟩ := cz3 BK356.out) | ((with_reducible refine gate_callee (f := 27) rfl ?_); refine goesL_ (some 37) rfl rfl Tryd.func27 (by kernel_rfl) rfl #[.agg #[.int .i64 a4_0, .int .i64 a4_1, .int .i64 a4_2]] rfl (by (try simp only [List.map_toArray, List.map_cons, List.map_nil]); first | done | rfl | (simp only [List.length_drop, List.length_take]; rfl)) ?_; (with_reducible refine (cell_Blank.calls a4_0 a4_1 a4_2 t365 t366 t367 t368 t369 _ A8.out).mono ?_); rintro e w19 ⟨rfl, hb⟩; refine ⟨_, rfl, ?_⟩; replace BK356 := Aside0.mk (bb hb (far5 NB356_363.out BK356.out)); replace BK363 := Aside0.mk (bb hb (put5 BK363.out)); replace HB := Aside0.mk (below_step (by repeat first | refine below_set ?_ GE356.out | refine below_set ?_ GE363.out | exact HB.out | apply below_alloc | apply pw_below_drewN | apply below_drew1) hb); (try clear hb); (try clear hb2); (try clear hk); (try clear hi)) | ((with_reducible refine gate_callee (f := 24) rfl ?_); refine goesL_ (some 39) rfl rfl Tryd.func24 (by kernel_rfl) rfl #[.agg #[.string t365, .int .i64 t366, .int .i64 t367, .int .i64 t368, .int .i64 t369], .int .i32 a1] rfl (by (try simp only [List.map_toArray, List.map_cons, List.map_nil]); first | done | rfl | (simp only [List.length_drop, List.length_take]; rfl)) ?_; (with_reducible refine (cell_Mark.calls k t365 t366 t367 t368 t369 a1 t370 t371 t372 t373 t374 t375 _ A9.out).mono ?_); rintro e w20 ⟨rfl, hb⟩; refine ⟨_, rfl, ?_⟩; replace BK356 := Aside0.mk (bb hb BK356.out); replace BK363 := Aside0.mk (bb hb BK363.out); replace HB := Aside0.mk (below_step (by repeat first | refine below_set ?_ GE356.out | refine below_set ?_ GE363.out | exact HB.out | apply below_alloc | apply pw_below_drewN | apply below_drew1) hb); (try clear hb); (try clear hb2); (try clear hk); (try clear hi)) | ((with_reducible refine gate_dst (N := 13) rfl ?_); (try (refine gate_guard (by rfl) ?_; dsimp only)); refine box_event ?hg (N := 13) ?hd (cs := #[.string (⟨#[]⟩ : ByteArray), .int .i64 0, .int .i64 0, .int .i64 0, .int .i64 0]) (t := 40) ?hr ?_; (case hd => rfl); (case hg => rfl); (case hr => first | (go_simp; done) | (go_simp; rfl)); intro gb376 hg w21 hbox hb; have BK376 := Aside0.mk (hbox); have GW376 := Aside0.mk ((by rw [hg]; exact (below_size (by repeat first | refine below_set ?_ GE356.out | refine below_set ?_ GE363.out | exact HB.out | apply below_alloc | apply pw_below_drewN | apply below_drew1)) : w.heap.size ≤ gb376)); have GE376 := GW376; have NB356_376 := Aside0.mk ((by rw [hg]; exact lt1 BK356.out : gb356 ≠ gb376)); have NB376_356 := Aside0.mk ((by rw [hg]; exact gt1 BK356.out : gb376 ≠ gb356)); have NB363_376 := Aside0.mk ((by rw [hg]; exact lt1 BK363.out : gb363 ≠ gb376)); have NB376_363 := Aside0.mk ((by rw [hg]; exact gt1 BK363.out : gb376 ≠ gb363)); replace BK356 := Aside0.mk (bb hb BK356.out); replace BK363 := Aside0.mk (bb hb BK363.out); replace HB := Aside0.mk (below_step (by repeat first | refine below_set ?_ GE356.out | refine below_set ?_ GE363.out | exact HB.out | apply below_alloc | apply pw_below_drewN | apply below_drew1) hb); clear hb hbox hg; have hnb22 := NB376_356.out; have hnc22 := NB356_376.out; have hnb23 := NB376_363.out; have hnc23 := NB363_376.out; obtain ⟨hcz24_0, hcz24_1, hcz24_2, hcz24_3, hcz24_4, hfz24_0, hfz24_1, hfz24_2, hfz24_3, hfz24_4⟩ := cz5 BK376.out; obtain ⟨hcz25_0, hcz25_1, hcz25_2, hcz25_3, hcz25_4, hfz25_0, hfz25_1, hfz25_2, hfz25_3, hfz25_4⟩ := cz5 BK363.out) | ((with_reducible refine gate_callee (f := 24) rfl ?_); refine goesL_ (some 45) rfl rfl Tryd.func24 (by kernel_rfl) rfl #[.agg #[.string t357, .int .i64 t358, .int .i64 t359, .int .i64 t360, .int .i64 t361], .int .i32 a1] rfl (by (try simp only [List.map_toArray, List.map_cons, List.map_nil]); first | done | rfl | (simp only [List.length_drop, List.length_take]; rfl)) ?_; (with_reducible refine (cell_Mark.calls k t357 t358 t359 t360 t361 a1 t377 t378 t379 t380 t381 t382 _ A10.out).mono ?_); rintro e w26 ⟨rfl, hb⟩; refine ⟨_, rfl, ?_⟩; replace BK356 := Aside0.mk (bb hb (far5 NB356_376.out BK356.out)); replace BK363 := Aside0.mk (bb hb (far5 NB363_376.out BK363.out)); replace BK376 := Aside0.mk (bb hb (put5 BK376.out)); replace HB := Aside0.mk (below_step (by repeat first | refine below_set ?_ GE356.out | refine below_set ?_ GE363.out | refine below_set ?_ GE376.out | exact HB.out | apply below_alloc | apply pw_below_drewN | apply below_drew1) hb); (try clear hb); (try clear hb2); (try clear hk); (try clear hi)) | ((with_reducible refine gate_dst (N := 15) rfl ?_); (try (refine gate_guard (by rfl) ?_; dsimp only)); refine box_event ?hg (N := 15) ?hd (cs := #[.string (⟨#[]⟩ : ByteArray), .int .i64 0, .int .i64 0, .int .i64 0, .int .i64 0]) (t := 40) ?hr ?_; (case hd => rfl); (case hg => rfl); (case hr => first | (go_simp; done) | (go_simp; rfl)); intro gb383 hg w27 hbox hb; have BK383 := Aside0.mk (hbox); have GW383 := Aside0.mk ((by rw [hg]; exact (below_size (by repeat first | refine below_set ?_ GE356.out | refine below_set ?_ GE363.out | refine below_set ?_ GE376.out | exact HB.out | apply below_alloc | apply pw_below_drewN | apply below_drew1)) : w.heap.size ≤ gb383)); have GE383 := GW383; have NB356_383 := Aside0.mk ((by rw [hg]; exact lt1 BK356.out : gb356 ≠ gb383)); have NB383_356 := Aside0.mk ((by rw [hg]; exact gt1 BK356.out : gb383 ≠ gb356)); have NB363_383 := Aside0.mk ((by rw [hg]; exact lt1 BK363.out : gb363 ≠ gb383)); have NB383_363 := Aside0.mk ((by rw [hg]; exact gt1 BK363.out : gb383 ≠ gb363)); have NB376_383 := Aside0.mk ((by rw [hg]; exact lt1 BK376.out : gb376 ≠ gb383)); have NB383_376 := Aside0.mk ((by rw [hg]; exact gt1 BK376.out : gb383 ≠ gb376)); replace BK356 := Aside0.mk (bb hb BK356.out); replace BK363 := Aside0.mk (bb hb BK363.out); replace BK376 := Aside0.mk (bb hb BK376.out); replace HB := Aside0.mk (below_step (by repeat first | refine below_set ?_ GE356.out | refine below_set ?_ GE363.out | refine below_set ?_ GE376.out | exact HB.out | apply below_alloc | apply pw_below_drewN | apply below_drew1) hb); clear hb hbox hg; have hnb28 := NB383_356.out; have hnc28 := NB356_383.out; have hnb29 := NB383_363.out; have hnc29 := NB363_383.out; have hnb30 := NB383_376.out; have hnc30 := NB376_383.out; obtain ⟨hcz31_0, hcz31_1, hcz31_2, hcz31_3, hcz31_4, hfz31_0, hfz31_1, hfz31_2, hfz31_3, hfz31_4⟩ := cz5 BK383.out))
  (try simp only [Act.put, List.setIfInBounds_toArray, List.set_cons_zero, List.set_cons_succ])
  go_cut [58] (fun v58 wc => ∃ (kq : Nat) (x58_10 : Bool), v58 = .bool x58_10 ∧ Aside0 (backseatlaw04_CellMarks.j0 kq a2 a3 t382 x58_10 t357 t358 t359 t360 t361 t377 t378 t379 t380 t381 = some r) ∧ Aside0 (kq ≤ k) ∧ Aside0 (wc.heap[gb356]? = some (.cells #[.int .i64 a4_0, .int .i64 a4_1, .int .i64 a4_2] 38 (0, 0))) ∧ Aside0 (wc.heap[gb363]? = some (.cells #[.string t357, .int .i64 t358, .int .i64 t359, .int .i64 t360, .int .i64 t361] 40 (0, 0))) ∧ Aside0 (wc.heap[gb376]? = some (.cells #[.string t370, .int .i64 t371, .int .i64 t372, .int .i64 t373, .int .i64 t374] 40 (0, 0))) ∧ Aside0 (wc.heap[gb383]? = some (.cells #[.string t377, .int .i64 t378, .int .i64 t379, .int .i64 t380, .int .i64 t381] 40 (0, 0))) ∧ Aside0 (Below w.heap.size w wc))
  case first =>
   have H := HC11.out
   clear HC11
   replace H := Option.bind_eq_some_iff.mp H
   obtain ⟨t384, A320, H⟩ := H
   replace H : (if t384 = true then (if t375 = 1 then ((backseatlaw04_alive.f k).bind fun t385 => (backseatlaw04_CellMarks.j0 k a2 a3 t382 (!t385) t357 t358 t359 t360 t361 t377 t378 t379 t380 t381)) else (backseatlaw04_CellMarks.j0 k a2 a3 t382 true t357 t358 t359 t360 t361 t377 t378 t379 t380 t381)) else (backseatlaw04_CellMarks.j0 k a2 a3 t382 true t357 t358 t359 t360 t361 t377 t378 t379 t380 t381)) = some r := H
   have A32 := Aside0.mk A320
   clear A320
   by_cases c33 : t384 = true
   ·subst c33
    have H1 : (if t375 = 1 then ((backseatlaw04_alive.f k).bind fun t385 => (backseatlaw04_CellMarks.j0 k a2 a3 t382 (!t385) t357 t358 t359 t360 t361 t377 t378 t379 t380 t381)) else (backseatlaw04_CellMarks.j0 k a2 a3 t382 true t357 t358 t359 t360 t361 t377 t378 t379 t380 t381)) = some r := by rw [if_pos rfl] at H; exact H
    clear H
    have H := H1
    clear H1
    by_cases c34 : t375 = 1
    ·rw [if_pos c34] at H
     have c34b0 : (t375 == 1) = true := beq_iff_eq.mpr c34
     have c34b1 : (t375 != 1) = false := bne_eq_false_iff_eq.mpr c34
     clear c34
     (first | rw [c34b0] | (simp only [i64_w, i32_w]; rw [c34b0]) | skip)
     replace H := Option.bind_eq_some_iff.mp H
     obtain ⟨t385, A350, H⟩ := H
     replace H : (backseatlaw04_CellMarks.j0 k a2 a3 t382 (!t385) t357 t358 t359 t360 t361 t377 t378 t379 t380 t381) = some r := H
     have A35 := Aside0.mk A350
     clear A350
     have H' := Aside0.mk H
     clear H
     have hnb36 := NB363_356.out
     have hnc36 := NB356_363.out
     have hnb37 := NB363_376.out
     have hnc37 := NB376_363.out
     have hnb38 := NB363_383.out
     have hnc38 := NB383_363.out
     have hcz39_0 : w27.cell? ⟨gb363, 0, none⟩ = some (.string t357) := (blk_cell BK363.out 0).trans rfl
     have hcz39_1 : w27.cell? ⟨gb363, 1, none⟩ = some (.int .i64 t358) := (blk_cell BK363.out 1).trans rfl
     have hcz39_2 : w27.cell? ⟨gb363, 2, none⟩ = some (.int .i64 t359) := (blk_cell BK363.out 2).trans rfl
     have hcz39_3 : w27.cell? ⟨gb363, 3, none⟩ = some (.int .i64 t360) := (blk_cell BK363.out 3).trans rfl
     have hcz39_4 : w27.cell? ⟨gb363, 4, none⟩ = some (.int .i64 t361) := (blk_cell BK363.out 4).trans rfl
     have hfz39_0 := blk_frozen BK363.out 0
     have hfz39_1 := blk_frozen BK363.out 1
     have hfz39_2 := blk_frozen BK363.out 2
     have hfz39_3 := blk_frozen BK363.out 3
     have hfz39_4 := blk_frozen BK363.out 4
     go_wp2_with (first | ((with_reducible refine gate_callee (f := 25) rfl ?_); refine goesL_ (some 49) rfl rfl Tryd.func25 (by kernel_rfl) rfl #[.agg #[.string t357, .int .i64 t358, .int .i64 t359, .int .i64 t360, .int .i64 t361]] rfl (by (try simp only [List.map_toArray, List.map_cons, List.map_nil]); first | done | rfl | (simp only [List.length_drop, List.length_take]; rfl)) ?_; (with_reducible refine (cell_Right.calls k t357 t358 t359 t360 t361 true _ A32.out).mono ?_); rintro e w40 ⟨rfl, hb⟩; refine ⟨_, rfl, ?_⟩; replace BK356 := Aside0.mk (bb hb (far5 NB356_383.out BK356.out)); replace BK363 := Aside0.mk (bb hb (far5 NB363_383.out BK363.out)); replace BK376 := Aside0.mk (bb hb (far5 NB376_383.out BK376.out)); replace BK383 := Aside0.mk (bb hb (put5 BK383.out)); replace HB := Aside0.mk (below_step (by repeat first | refine below_set ?_ GE356.out | refine below_set ?_ GE363.out | refine below_set ?_ GE376.out | refine below_set ?_ GE383.out | exact HB.out | apply below_alloc | apply pw_below_drewN | apply below_drew1) hb); (try clear hb); (try clear hb2); (try clear hk); (try clear hi)) | (go_at_call 29; (with_reducible refine (backseatlaw04_alive.calls k  t385 _ A35.out).mono ?_); rintro e w41 ⟨rfl, hb⟩; replace BK356 := Aside0.mk (bb hb BK356.out); replace BK363 := Aside0.mk (bb hb BK363.out); replace BK376 := Aside0.mk (bb hb BK376.out); replace BK383 := Aside0.mk (bb hb BK383.out); replace HB := Aside0.mk (below_step (by repeat first | refine below_set ?_ GE356.out | refine below_set ?_ GE363.out | refine below_set ?_ GE376.out | refine below_set ?_ GE383.out | exact HB.out | apply below_alloc | apply pw_below_drewN | apply below_drew1) hb); (try clear hb); (try clear hb2); (try clear hk); (try clear hi)))
     go_meet
     case rel => exact ⟨_, (!t385), (by first | rfl | (simp; done) | (simp [*]; done)), H', ⟨by first | omega | exact Nat.le_refl _⟩, ⟨by (with_reducible repeat (first | refine blk_drewN ?_ _ | refine blk_drew ?_ | refine blk_alloc ?_ _)); exact BK356.out⟩, ⟨by (with_reducible repeat (first | refine blk_drewN ?_ _ | refine blk_drew ?_ | refine blk_alloc ?_ _)); exact BK363.out⟩, ⟨by (with_reducible repeat (first | refine blk_drewN ?_ _ | refine blk_drew ?_ | refine blk_alloc ?_ _)); exact BK376.out⟩, ⟨by (with_reducible repeat (first | refine blk_drewN ?_ _ | refine blk_drew ?_ | refine blk_alloc ?_ _)); exact BK383.out⟩, ⟨by repeat first | refine below_set ?_ GE356.out | refine below_set ?_ GE363.out | refine below_set ?_ GE376.out | refine below_set ?_ GE383.out | exact HB.out | apply below_alloc | apply pw_below_drewN | apply below_drew1⟩⟩
    ·rw [if_neg c34] at H
     have c34b0 : (t375 == 1) = false := beq_eq_false_iff_ne.mpr c34
     have c34b1 : (t375 != 1) = true := bne_iff_ne.mpr c34
     (first | rw [c34b0] | (simp only [i64_w, i32_w]; rw [c34b0]) | skip)
     have H' := Aside0.mk H
     clear H
     have hnb42 := NB363_356.out
     have hnc42 := NB356_363.out
     have hnb43 := NB363_376.out
     have hnc43 := NB376_363.out
     have hnb44 := NB363_383.out
     have hnc44 := NB383_363.out
     have hcz45_0 : w27.cell? ⟨gb363, 0, none⟩ = some (.string t357) := (blk_cell BK363.out 0).trans rfl
     have hcz45_1 : w27.cell? ⟨gb363, 1, none⟩ = some (.int .i64 t358) := (blk_cell BK363.out 1).trans rfl
     have hcz45_2 : w27.cell? ⟨gb363, 2, none⟩ = some (.int .i64 t359) := (blk_cell BK363.out 2).trans rfl
     have hcz45_3 : w27.cell? ⟨gb363, 3, none⟩ = some (.int .i64 t360) := (blk_cell BK363.out 3).trans rfl
     have hcz45_4 : w27.cell? ⟨gb363, 4, none⟩ = some (.int .i64 t361) := (blk_cell BK363.out 4).trans rfl
     have hfz45_0 := blk_frozen BK363.out 0
     have hfz45_1 := blk_frozen BK363.out 1
     have hfz45_2 := blk_frozen BK363.out 2
     have hfz45_3 := blk_frozen BK363.out 3
     have hfz45_4 := blk_frozen BK363.out 4
     go_wp2_with (first | ((with_reducible refine gate_callee (f := 25) rfl ?_); refine goesL_ (some 49) rfl rfl Tryd.func25 (by kernel_rfl) rfl #[.agg #[.string t357, .int .i64 t358, .int .i64 t359, .int .i64 t360, .int .i64 t361]] rfl (by (try simp only [List.map_toArray, List.map_cons, List.map_nil]); first | done | rfl | (simp only [List.length_drop, List.length_take]; rfl)) ?_; (with_reducible refine (cell_Right.calls k t357 t358 t359 t360 t361 true _ A32.out).mono ?_); rintro e w46 ⟨rfl, hb⟩; refine ⟨_, rfl, ?_⟩; replace BK356 := Aside0.mk (bb hb (far5 NB356_383.out BK356.out)); replace BK363 := Aside0.mk (bb hb (far5 NB363_383.out BK363.out)); replace BK376 := Aside0.mk (bb hb (far5 NB376_383.out BK376.out)); replace BK383 := Aside0.mk (bb hb (put5 BK383.out)); replace HB := Aside0.mk (below_step (by repeat first | refine below_set ?_ GE356.out | refine below_set ?_ GE363.out | refine below_set ?_ GE376.out | refine below_set ?_ GE383.out | exact HB.out | apply below_alloc | apply pw_below_drewN | apply below_drew1) hb); (try clear hb); (try clear hb2); (try clear hk); (try clear hi)))
     go_meet
     case rel => exact ⟨_, (true), (by first | rfl | (simp; done) | (simp [*]; done)), H', ⟨by first | omega | exact Nat.le_refl _⟩, ⟨by (with_reducible repeat (first | refine blk_drewN ?_ _ | refine blk_drew ?_ | refine blk_alloc ?_ _)); exact BK356.out⟩, ⟨by (with_reducible repeat (first | refine blk_drewN ?_ _ | refine blk_drew ?_ | refine blk_alloc ?_ _)); exact BK363.out⟩, ⟨by (with_reducible repeat (first | refine blk_drewN ?_ _ | refine blk_drew ?_ | refine blk_alloc ?_ _)); exact BK376.out⟩, ⟨by (with_reducible repeat (first | refine blk_drewN ?_ _ | refine blk_drew ?_ | refine blk_alloc ?_ _)); exact BK383.out⟩, ⟨by repeat first | refine below_set ?_ GE356.out | refine below_set ?_ GE363.out | refine below_set ?_ GE376.out | refine below_set ?_ GE383.out | exact HB.out | apply below_alloc | apply pw_below_drewN | apply below_drew1⟩⟩
   ·replace c33 := Bool.eq_false_iff.mpr c33
    subst c33
    have H1 : (backseatlaw04_CellMarks.j0 k a2 a3 t382 true t357 t358 t359 t360 t361 t377 t378 t379 t380 t381) = some r := by rw [if_neg (show ¬ (false = true) by decide)] at H; exact H
    clear H
    have H := H1
    clear H1
    have H' := Aside0.mk H
    clear H
    have hnb47 := NB363_356.out
    have hnc47 := NB356_363.out
    have hnb48 := NB363_376.out
    have hnc48 := NB376_363.out
    have hnb49 := NB363_383.out
    have hnc49 := NB383_363.out
    have hcz50_0 : w27.cell? ⟨gb363, 0, none⟩ = some (.string t357) := (blk_cell BK363.out 0).trans rfl
    have hcz50_1 : w27.cell? ⟨gb363, 1, none⟩ = some (.int .i64 t358) := (blk_cell BK363.out 1).trans rfl
    have hcz50_2 : w27.cell? ⟨gb363, 2, none⟩ = some (.int .i64 t359) := (blk_cell BK363.out 2).trans rfl
    have hcz50_3 : w27.cell? ⟨gb363, 3, none⟩ = some (.int .i64 t360) := (blk_cell BK363.out 3).trans rfl
    have hcz50_4 : w27.cell? ⟨gb363, 4, none⟩ = some (.int .i64 t361) := (blk_cell BK363.out 4).trans rfl
    have hfz50_0 := blk_frozen BK363.out 0
    have hfz50_1 := blk_frozen BK363.out 1
    have hfz50_2 := blk_frozen BK363.out 2
    have hfz50_3 := blk_frozen BK363.out 3
    have hfz50_4 := blk_frozen BK363.out 4
    go_wp2_with (first | ((with_reducible refine gate_callee (f := 25) rfl ?_); refine goesL_ (some 49) rfl rfl Tryd.func25 (by kernel_rfl) rfl #[.agg #[.string t357, .int .i64 t358, .int .i64 t359, .int .i64 t360, .int .i64 t361]] rfl (by (try simp only [List.map_toArray, List.map_cons, List.map_nil]); first | done | rfl | (simp only [List.length_drop, List.length_take]; rfl)) ?_; (with_reducible refine (cell_Right.calls k t357 t358 t359 t360 t361 false _ A32.out).mono ?_); rintro e w51 ⟨rfl, hb⟩; refine ⟨_, rfl, ?_⟩; replace BK356 := Aside0.mk (bb hb (far5 NB356_383.out BK356.out)); replace BK363 := Aside0.mk (bb hb (far5 NB363_383.out BK363.out)); replace BK376 := Aside0.mk (bb hb (far5 NB376_383.out BK376.out)); replace BK383 := Aside0.mk (bb hb (put5 BK383.out)); replace HB := Aside0.mk (below_step (by repeat first | refine below_set ?_ GE356.out | refine below_set ?_ GE363.out | refine below_set ?_ GE376.out | refine below_set ?_ GE383.out | exact HB.out | apply below_alloc | apply pw_below_drewN | apply below_drew1) hb); (try clear hb); (try clear hb2); (try clear hk); (try clear hi)))
    go_meet
    case rel => exact ⟨_, (true), (by first | rfl | (simp; done) | (simp [*]; done)), H', ⟨by first | omega | exact Nat.le_refl _⟩, ⟨by (with_reducible repeat (first | refine blk_drewN ?_ _ | refine blk_drew ?_ | refine blk_alloc ?_ _)); exact BK356.out⟩, ⟨by (with_reducible repeat (first | refine blk_drewN ?_ _ | refine blk_drew ?_ | refine blk_alloc ?_ _)); exact BK363.out⟩, ⟨by (with_reducible repeat (first | refine blk_drewN ?_ _ | refine blk_drew ?_ | refine blk_alloc ?_ _)); exact BK376.out⟩, ⟨by (with_reducible repeat (first | refine blk_drewN ?_ _ | refine blk_drew ?_ | refine blk_alloc ?_ _)); exact BK383.out⟩, ⟨by repeat first | refine below_set ?_ GE356.out | refine below_set ?_ GE363.out | refine below_set ?_ GE376.out | refine below_set ?_ GE383.out | exact HB.out | apply below_alloc | apply pw_below_drewN | apply below_drew1⟩⟩
  case rest =>
   clear HC11
   (try clear c1); (try clear c2); (try clear p2); (try clear c3); (try clear c4); (try clear c7); (try clear c7b0); (try clear c7b1); (try clear c8); (try clear c16); (try clear c22); (try clear c23); (try clear c24); (try clear c25); (try clear c27); (try clear c28); (try clear c29); (try clear c30); (try clear c33); (try clear c34); (try clear c34b0); (try clear c34b1); (try clear c36); (try clear c37); (try clear c38); (try clear c42); (try clear c43); (try clear c44); (try clear c47); (try clear c48); (try clear c49); (try clear hcz13_0); (try clear hcz13_1); (try clear hcz13_2); (try clear hcz17_0); (try clear hcz17_1); (try clear hcz17_2); (try clear hcz17_3); (try clear hcz17_4); (try clear hcz18_0); (try clear hcz18_1); (try clear hcz18_2); (try clear hcz24_0); (try clear hcz24_1); (try clear hcz24_2); (try clear hcz24_3); (try clear hcz24_4); (try clear hcz25_0); (try clear hcz25_1); (try clear hcz25_2); (try clear hcz25_3); (try clear hcz25_4); (try clear hcz31_0); (try clear hcz31_1); (try clear hcz31_2); (try clear hcz31_3); (try clear hcz31_4); (try clear hcz39_0); (try clear hcz39_1); (try clear hcz39_2); (try clear hcz39_3); (try clear hcz39_4); (try clear hcz45_0); (try clear hcz45_1); (try clear hcz45_2); (try clear hcz45_3); (try clear hcz45_4); (try clear hcz50_0); (try clear hcz50_1); (try clear hcz50_2); (try clear hcz50_3); (try clear hcz50_4); (try clear hfz13_0); (try clear hfz13_1); (try clear hfz13_2); (try clear hfz17_0); (try clear hfz17_1); (try clear hfz17_2); (try clear hfz17_3); (try clear hfz17_4); (try clear hfz18_0); (try clear hfz18_1); (try clear hfz18_2); (try clear hfz24_0); (try clear hfz24_1); (try clear hfz24_2); (try clear hfz24_3); (try clear hfz24_4); (try clear hfz25_0); (try clear hfz25_1); (try clear hfz25_2); (try clear hfz25_3); (try clear hfz25_4); (try clear hfz31_0); (try clear hfz31_1); (try clear hfz31_2); (try clear hfz31_3); (try clear hfz31_4); (try clear hfz39_0); (try clear hfz39_1); (try clear hfz39_2); (try clear hfz39_3); (try clear hfz39_4); (try clear hfz45_0); (try clear hfz45_1); (try clear hfz45_2); (try clear hfz45_3); (try clear hfz45_4); (try clear hfz50_0); (try clear hfz50_1); (try clear hfz50_2); (try clear hfz50_3); (try clear hfz50_4)
   obtain ⟨kq, x58_10, rfl, HA, HJ10, BK356, BK363, BK376, BK383, HB⟩ := hcut
   cases kq with
   | zero => exact absurd HA.out (by simp [backseatlaw04_CellMarks.j0])
   | succ kj10 =>
    have H := HA.out
    clear HA
    simp only [backseatlaw04_CellMarks.j0] at H
    by_cases c52 : x58_10 = true
    ·subst c52
     have H1 : (some false) = some r := by rw [if_pos rfl] at H; exact H
     clear H
     have H := H1
     clear H1
     obtain rfl := Option.some.inj H
     go_wp2
     go_ret
     exact ⟨by first | rfl | (simp [errW_none, errW_some] <;> rfl) | (simp [*, errW_none, errW_some] <;> rfl), by repeat first | refine below_set ?_ GE356.out | refine below_set ?_ GE363.out | refine below_set ?_ GE376.out | refine below_set ?_ GE383.out | exact HB.out | apply below_alloc | apply pw_below_drewN | apply below_drew1⟩
    ·replace c52 := Bool.eq_false_iff.mpr c52
     subst c52
     have H1 : (if t382 = 0 then ((cell_Mark.f kj10 t377 t378 t379 t380 t381 a2).bind fun bt386 => (if bt386.2.2.2.2.2 = 0 then ((cell_Mark.f kj10 bt386.1 bt386.2.1 bt386.2.2.1 bt386.2.2.2.1 bt386.2.2.2.2.1 a3).bind fun bt393 => ((cell_Right.f kj10 bt386.1 bt386.2.1 bt386.2.2.1 bt386.2.2.2.1 bt386.2.2.2.2.1).bind fun t400 => (if t400 = true then (if bt386.2.1 = t358 then (if (bt386.1.size : Int) > (t377.size : Int) then (if 0 ≤ (t377.size : Int) then (if (t377.size : Int) ≤ (bt386.1.size : Int) then (if (bt386.1.extract 0 ((t377.size : Int) : Int).toNat).toList = t377.toList then (if 0 ≤ (t357.size : Int) then (if (t357.size : Int) ≤ (t377.size : Int) then (if (t377.extract 0 ((t357.size : Int) : Int).toNat).toList = t357.toList then (if bt393.2.2.2.2.2 = 7 then (some true) else (some (bt393.2.2.2.2.2 == 1))) else (some false)) else (none)) else (none)) else (some false)) else (none)) else (none)) else (some false)) else (some false)) else (some false)))) else (some (bt386.2.2.2.2.2 == 1)))) else (some (t382 == 1))) = some r := by rw [if_neg (show ¬ (false = true) by decide)] at H; exact H
     clear H
     have H := H1
     clear H1
     by_cases c53 : t382 = 0
     ·rw [if_pos c53] at H
      have c53b0 : (t382 == 0) = true := beq_iff_eq.mpr c53
      have c53b1 : (t382 != 0) = false := bne_eq_false_iff_eq.mpr c53
      clear c53
      replace H := Option.bind_eq_some_iff.mp H
      obtain ⟨⟨t386, t387, t388, t389, t390, t391⟩, A540, H⟩ := H
      replace H : (if t391 = 0 then ((cell_Mark.f kj10 t386 t387 t388 t389 t390 a3).bind fun bt393 => ((cell_Right.f kj10 t386 t387 t388 t389 t390).bind fun t400 => (if t400 = true then (if t387 = t358 then (if (t386.size : Int) > (t377.size : Int) then (if 0 ≤ (t377.size : Int) then (if (t377.size : Int) ≤ (t386.size : Int) then (if (t386.extract 0 ((t377.size : Int) : Int).toNat).toList = t377.toList then (if 0 ≤ (t357.size : Int) then (if (t357.size : Int) ≤ (t377.size : Int) then (if (t377.extract 0 ((t357.size : Int) : Int).toNat).toList = t357.toList then (if bt393.2.2.2.2.2 = 7 then (some true) else (some (bt393.2.2.2.2.2 == 1))) else (some false)) else (none)) else (none)) else (some false)) else (none)) else (none)) else (some false)) else (some false)) else (some false)))) else (some (t391 == 1))) = some r := H
      have A54 := Aside0.mk A540
      clear A540
      by_cases c55 : t391 = 0
      ·rw [if_pos c55] at H
       have c55b0 : (t391 == 0) = true := beq_iff_eq.mpr c55
       have c55b1 : (t391 != 0) = false := bne_eq_false_iff_eq.mpr c55
       clear c55
       replace H := Option.bind_eq_some_iff.mp H
       obtain ⟨⟨t393, t394, t395, t396, t397, t398⟩, A560, H⟩ := H
       replace H : ((cell_Right.f kj10 t386 t387 t388 t389 t390).bind fun t400 => (if t400 = true then (if t387 = t358 then (if (t386.size : Int) > (t377.size : Int) then (if 0 ≤ (t377.size : Int) then (if (t377.size : Int) ≤ (t386.size : Int) then (if (t386.extract 0 ((t377.size : Int) : Int).toNat).toList = t377.toList then (if 0 ≤ (t357.size : Int) then (if (t357.size : Int) ≤ (t377.size : Int) then (if (t377.extract 0 ((t357.size : Int) : Int).toNat).toList = t357.toList then (if t398 = 7 then (some true) else (some (t398 == 1))) else (some false)) else (none)) else (none)) else (some false)) else (none)) else (none)) else (some false)) else (some false)) else (some false))) = some r := H
       have A56 := Aside0.mk A560
       clear A560
       replace H := Option.bind_eq_some_iff.mp H
       obtain ⟨t400, A570, H⟩ := H
       replace H : (if t400 = true then (if t387 = t358 then (if (t386.size : Int) > (t377.size : Int) then (if 0 ≤ (t377.size : Int) then (if (t377.size : Int) ≤ (t386.size : Int) then (if (t386.extract 0 ((t377.size : Int) : Int).toNat).toList = t377.toList then (if 0 ≤ (t357.size : Int) then (if (t357.size : Int) ≤ (t377.size : Int) then (if (t377.extract 0 ((t357.size : Int) : Int).toNat).toList = t357.toList then (if t398 = 7 then (some true) else (some (t398 == 1))) else (some false)) else (none)) else (none)) else (some false)) else (none)) else (none)) else (some false)) else (some false)) else (some false)) = some r := H
       have A57 := Aside0.mk A570
       clear A570
       by_cases c58 : t400 = true
       ·subst c58
        have H1 : (if t387 = t358 then (if (t386.size : Int) > (t377.size : Int) then (if 0 ≤ (t377.size : Int) then (if (t377.size : Int) ≤ (t386.size : Int) then (if (t386.extract 0 ((t377.size : Int) : Int).toNat).toList = t377.toList then (if 0 ≤ (t357.size : Int) then (if (t357.size : Int) ≤ (t377.size : Int) then (if (t377.extract 0 ((t357.size : Int) : Int).toNat).toList = t357.toList then (if t398 = 7 then (some true) else (some (t398 == 1))) else (some false)) else (none)) else (none)) else (some false)) else (none)) else (none)) else (some false)) else (some false)) = some r := by rw [if_pos rfl] at H; exact H
        clear H
        have H := H1
        clear H1
        by_cases c59 : t387 = t358
        ·rw [if_pos c59] at H
         have c59b0 : (t387 == t358) = true := beq_iff_eq.mpr c59
         have c59b1 : (t387 != t358) = false := bne_eq_false_iff_eq.mpr c59
         clear c59
         by_cases c60 : (t386.size : Int) > (t377.size : Int)
         ·rw [if_pos c60] at H
          have c60b0 : decide ((t377.size : Int) < (t386.size : Int)) = true := decide_eq_true c60
          have c60b1 : decide (t377.size < t386.size) = true := decide_eq_true (Int.ofNat_lt.mp c60)
          clear c60
          by_cases c61 : 0 ≤ (t377.size : Int)
          ·rw [if_pos c61] at H
           have c61b0 := eq_true c61
           have c61b1 : decide (0 ≤ (t377.size : Int)) = true := decide_eq_true c61
           clear c61
           by_cases c62 : (t377.size : Int) ≤ (t386.size : Int)
           ·rw [if_pos c62] at H
            have c62b0 := eq_true c62
            have c62b1 : decide ((t377.size : Int) ≤ (t386.size : Int)) = true := decide_eq_true c62
            clear c62
            by_cases c63 : (t386.extract 0 ((t377.size : Int) : Int).toNat).toList = t377.toList
            ·rw [if_pos c63] at H
             have c63b0 : ((t386.extract 0 ((t377.size : Int) : Int).toNat).toList == t377.toList) = true := beq_iff_eq.mpr c63
             (try (have c63b0x := c63b0; simp at c63b0x))
             (try (have c63b0y := c63b0; simp only [Int.toNat_natCast] at c63b0y))
             have c63b1 : ((t386.extract 0 ((t377.size : Int) : Int).toNat).toList != t377.toList) = false := bne_eq_false_iff_eq.mpr c63
             (try (have c63b1x := c63b1; simp at c63b1x))
             clear c63
             by_cases c64 : 0 ≤ (t357.size : Int)
             ·rw [if_pos c64] at H
              have c64b0 := eq_true c64
              have c64b1 : decide (0 ≤ (t357.size : Int)) = true := decide_eq_true c64
              clear c64
              by_cases c65 : (t357.size : Int) ≤ (t377.size : Int)
              ·rw [if_pos c65] at H
               have c65b0 := eq_true c65
               have c65b1 : decide ((t357.size : Int) ≤ (t377.size : Int)) = true := decide_eq_true c65
               clear c65
               by_cases c66 : (t377.extract 0 ((t357.size : Int) : Int).toNat).toList = t357.toList
               ·rw [if_pos c66] at H
                have c66b0 : ((t377.extract 0 ((t357.size : Int) : Int).toNat).toList == t357.toList) = true := beq_iff_eq.mpr c66
                (try (have c66b0x := c66b0; simp at c66b0x))
                (try (have c66b0y := c66b0; simp only [Int.toNat_natCast] at c66b0y))
                have c66b1 : ((t377.extract 0 ((t357.size : Int) : Int).toNat).toList != t357.toList) = false := bne_eq_false_iff_eq.mpr c66
                (try (have c66b1x := c66b1; simp at c66b1x))
                clear c66
                by_cases c67 : t398 = 7
                ·rw [if_pos c67] at H
                 have c67b0 : (t398 == 7) = true := beq_iff_eq.mpr c67
                 have c67b1 : (t398 != 7) = false := bne_eq_false_iff_eq.mpr c67
                 clear c67
                 obtain rfl := Option.some.inj H
                 have hnb68 := NB383_356.out
                 have hnc68 := NB356_383.out
                 have hnb69 := NB383_363.out
                 have hnc69 := NB363_383.out
                 have hnb70 := NB383_376.out
                 have hnc70 := NB376_383.out
                 have hcz71_0 : wc.cell? ⟨gb383, 0, none⟩ = some (.string t377) := (blk_cell BK383.out 0).trans rfl
                 have hcz71_1 : wc.cell? ⟨gb383, 1, none⟩ = some (.int .i64 t378) := (blk_cell BK383.out 1).trans rfl
                 have hcz71_2 : wc.cell? ⟨gb383, 2, none⟩ = some (.int .i64 t379) := (blk_cell BK383.out 2).trans rfl
                 have hcz71_3 : wc.cell? ⟨gb383, 3, none⟩ = some (.int .i64 t380) := (blk_cell BK383.out 3).trans rfl
                 have hcz71_4 : wc.cell? ⟨gb383, 4, none⟩ = some (.int .i64 t381) := (blk_cell BK383.out 4).trans rfl
                 have hfz71_0 := blk_frozen BK383.out 0
                 have hfz71_1 := blk_frozen BK383.out 1
                 have hfz71_2 := blk_frozen BK383.out 2
                 have hfz71_3 := blk_frozen BK383.out 3
                 have hfz71_4 := blk_frozen BK383.out 4
                 try go_wp2_with (first | ((with_reducible refine gate_callee (f := 24) rfl ?_); refine goesL_ (some 66) rfl rfl Tryd.func24 (by kernel_rfl) rfl #[.agg #[.string t377, .int .i64 t378, .int .i64 t379, .int .i64 t380, .int .i64 t381], .int .i32 a2] rfl (by (try simp only [List.map_toArray, List.map_cons, List.map_nil]); first | done | rfl | (simp only [List.length_drop, List.length_take]; rfl)) ?_; (with_reducible refine (cell_Mark.calls kj10 t377 t378 t379 t380 t381 a2 t386 t387 t388 t389 t390 t391 _ A54.out).mono ?_); rintro e w72 ⟨rfl, hb⟩; refine ⟨_, rfl, ?_⟩; replace BK356 := Aside0.mk (bb hb BK356.out); replace BK363 := Aside0.mk (bb hb BK363.out); replace BK376 := Aside0.mk (bb hb BK376.out); replace BK383 := Aside0.mk (bb hb BK383.out); replace HB := Aside0.mk (below_step (by repeat first | refine below_set ?_ GE356.out | refine below_set ?_ GE363.out | refine below_set ?_ GE376.out | refine below_set ?_ GE383.out | exact HB.out | apply below_alloc | apply pw_below_drewN | apply below_drew1) hb); (try clear hb); (try clear hb2); (try clear hk); (try clear hi)) | ((with_reducible refine gate_dst (N := 17) rfl ?_); (try (refine gate_guard (by rfl) ?_; dsimp only)); refine box_event ?hg (N := 17) ?hd (cs := #[.string (⟨#[]⟩ : ByteArray), .int .i64 0, .int .i64 0, .int .i64 0, .int .i64 0]) (t := 40) ?hr ?_; (case hd => rfl); (case hg => rfl); (case hr => first | (go_simp; done) | (go_simp; rfl)); intro gb392 hg w73 hbox hb; have BK392 := Aside0.mk (hbox); have GW392 := Aside0.mk ((by rw [hg]; exact (below_size (by repeat first | refine below_set ?_ GE356.out | refine below_set ?_ GE363.out | refine below_set ?_ GE376.out | refine below_set ?_ GE383.out | exact HB.out | apply below_alloc | apply pw_below_drewN | apply below_drew1)) : w.heap.size ≤ gb392)); have GE392 := GW392; have NB356_392 := Aside0.mk ((by rw [hg]; exact lt1 BK356.out : gb356 ≠ gb392)); have NB392_356 := Aside0.mk ((by rw [hg]; exact gt1 BK356.out : gb392 ≠ gb356)); have NB363_392 := Aside0.mk ((by rw [hg]; exact lt1 BK363.out : gb363 ≠ gb392)); have NB392_363 := Aside0.mk ((by rw [hg]; exact gt1 BK363.out : gb392 ≠ gb363)); have NB376_392 := Aside0.mk ((by rw [hg]; exact lt1 BK376.out : gb376 ≠ gb392)); have NB392_376 := Aside0.mk ((by rw [hg]; exact gt1 BK376.out : gb392 ≠ gb376)); have NB383_392 := Aside0.mk ((by rw [hg]; exact lt1 BK383.out : gb383 ≠ gb392)); have NB392_383 := Aside0.mk ((by rw [hg]; exact gt1 BK383.out : gb392 ≠ gb383)); replace BK356 := Aside0.mk (bb hb BK356.out); replace BK363 := Aside0.mk (bb hb BK363.out); replace BK376 := Aside0.mk (bb hb BK376.out); replace BK383 := Aside0.mk (bb hb BK383.out); replace HB := Aside0.mk (below_step (by repeat first | refine below_set ?_ GE356.out | refine below_set ?_ GE363.out | refine below_set ?_ GE376.out | refine below_set ?_ GE383.out | exact HB.out | apply below_alloc | apply pw_below_drewN | apply below_drew1) hb); clear hb hbox hg; have hnb74 := NB392_356.out; have hnc74 := NB356_392.out; have hnb75 := NB392_363.out; have hnc75 := NB363_392.out; have hnb76 := NB392_376.out; have hnc76 := NB376_392.out; have hnb77 := NB392_383.out; have hnc77 := NB383_392.out; obtain ⟨hcz78_0, hcz78_1, hcz78_2, hcz78_3, hcz78_4, hfz78_0, hfz78_1, hfz78_2, hfz78_3, hfz78_4⟩ := cz5 BK392.out) | ((with_reducible refine gate_callee (f := 24) rfl ?_); refine goesL_ (some 76) rfl rfl Tryd.func24 (by kernel_rfl) rfl #[.agg #[.string t386, .int .i64 t387, .int .i64 t388, .int .i64 t389, .int .i64 t390], .int .i32 a3] rfl (by (try simp only [List.map_toArray, List.map_cons, List.map_nil]); first | done | rfl | (simp only [List.length_drop, List.length_take]; rfl)) ?_; (with_reducible refine (cell_Mark.calls kj10 t386 t387 t388 t389 t390 a3 t393 t394 t395 t396 t397 t398 _ A56.out).mono ?_); rintro e w79 ⟨rfl, hb⟩; refine ⟨_, rfl, ?_⟩; replace BK356 := Aside0.mk (bb hb (far5 NB356_392.out BK356.out)); replace BK363 := Aside0.mk (bb hb (far5 NB363_392.out BK363.out)); replace BK376 := Aside0.mk (bb hb (far5 NB376_392.out BK376.out)); replace BK383 := Aside0.mk (bb hb (far5 NB383_392.out BK383.out)); replace BK392 := Aside0.mk (bb hb (put5 BK392.out)); replace HB := Aside0.mk (below_step (by repeat first | refine below_set ?_ GE356.out | refine below_set ?_ GE363.out | refine below_set ?_ GE376.out | refine below_set ?_ GE383.out | refine below_set ?_ GE392.out | exact HB.out | apply below_alloc | apply pw_below_drewN | apply below_drew1) hb); (try clear hb); (try clear hb2); (try clear hk); (try clear hi)) | ((with_reducible refine gate_dst (N := 19) rfl ?_); (try (refine gate_guard (by rfl) ?_; dsimp only)); refine box_event ?hg (N := 19) ?hd (cs := #[.string (⟨#[]⟩ : ByteArray), .int .i64 0, .int .i64 0, .int .i64 0, .int .i64 0]) (t := 40) ?hr ?_; (case hd => rfl); (case hg => rfl); (case hr => first | (go_simp; done) | (go_simp; rfl)); intro gb399 hg w80 hbox hb; have BK399 := Aside0.mk (hbox); have GW399 := Aside0.mk ((by rw [hg]; exact (below_size (by repeat first | refine below_set ?_ GE356.out | refine below_set ?_ GE363.out | refine below_set ?_ GE376.out | refine below_set ?_ GE383.out | refine below_set ?_ GE392.out | exact HB.out | apply below_alloc | apply pw_below_drewN | apply below_drew1)) : w.heap.size ≤ gb399)); have GE399 := GW399; have NB356_399 := Aside0.mk ((by rw [hg]; exact lt1 BK356.out : gb356 ≠ gb399)); have NB399_356 := Aside0.mk ((by rw [hg]; exact gt1 BK356.out : gb399 ≠ gb356)); have NB363_399 := Aside0.mk ((by rw [hg]; exact lt1 BK363.out : gb363 ≠ gb399)); have NB399_363 := Aside0.mk ((by rw [hg]; exact gt1 BK363.out : gb399 ≠ gb363)); have NB376_399 := Aside0.mk ((by rw [hg]; exact lt1 BK376.out : gb376 ≠ gb399)); have NB399_376 := Aside0.mk ((by rw [hg]; exact gt1 BK376.out : gb399 ≠ gb376)); have NB383_399 := Aside0.mk ((by rw [hg]; exact lt1 BK383.out : gb383 ≠ gb399)); have NB399_383 := Aside0.mk ((by rw [hg]; exact gt1 BK383.out : gb399 ≠ gb383)); have NB392_399 := Aside0.mk ((by rw [hg]; exact lt1 BK392.out : gb392 ≠ gb399)); have NB399_392 := Aside0.mk ((by rw [hg]; exact gt1 BK392.out : gb399 ≠ gb392)); replace BK356 := Aside0.mk (bb hb BK356.out); replace BK363 := Aside0.mk (bb hb BK363.out); replace BK376 := Aside0.mk (bb hb BK376.out); replace BK383 := Aside0.mk (bb hb BK383.out); replace BK392 := Aside0.mk (bb hb BK392.out); replace HB := Aside0.mk (below_step (by repeat first | refine below_set ?_ GE356.out | refine below_set ?_ GE363.out | refine below_set ?_ GE376.out | refine below_set ?_ GE383.out | refine below_set ?_ GE392.out | exact HB.out | apply below_alloc | apply pw_below_drewN | apply below_drew1) hb); clear hb hbox hg; have hnb81 := NB399_356.out; have hnc81 := NB356_399.out; have hnb82 := NB399_363.out; have hnc82 := NB363_399.out; have hnb83 := NB399_376.out; have hnc83 := NB376_399.out; have hnb84 := NB399_383.out; have hnc84 := NB383_399.out; have hnb85 := NB399_392.out; have hnc85 := NB392_399.out; obtain ⟨hcz86_0, hcz86_1, hcz86_2, hcz86_3, hcz86_4, hfz86_0, hfz86_1, hfz86_2, hfz86_3, hfz86_4⟩ := cz5 BK399.out))
                 have n0_ : Aside0 ((((((w80.setCell ⟨gb399, 0, none⟩ (.string t393)).setCell ⟨gb399, 1, none⟩ (.int .i64 t394)).setCell ⟨gb399, 2, none⟩ (.int .i64 t395)).setCell ⟨gb399, 3, none⟩ (.int .i64 t396)).setCell ⟨gb399, 4, none⟩ (.int .i64 t397)).heap[gb356]? = some (.cells #[.int .i64 a4_0, .int .i64 a4_1, .int .i64 a4_2] 38 (0, 0))) := ⟨by exact (far5 NB356_399.out BK356.out)⟩
                 have n1_ : Aside0 ((((((w80.setCell ⟨gb399, 0, none⟩ (.string t393)).setCell ⟨gb399, 1, none⟩ (.int .i64 t394)).setCell ⟨gb399, 2, none⟩ (.int .i64 t395)).setCell ⟨gb399, 3, none⟩ (.int .i64 t396)).setCell ⟨gb399, 4, none⟩ (.int .i64 t397)).heap[gb363]? = some (.cells #[.string t357, .int .i64 t358, .int .i64 t359, .int .i64 t360, .int .i64 t361] 40 (0, 0))) := ⟨by exact (far5 NB363_399.out BK363.out)⟩
                 have n2_ : Aside0 ((((((w80.setCell ⟨gb399, 0, none⟩ (.string t393)).setCell ⟨gb399, 1, none⟩ (.int .i64 t394)).setCell ⟨gb399, 2, none⟩ (.int .i64 t395)).setCell ⟨gb399, 3, none⟩ (.int .i64 t396)).setCell ⟨gb399, 4, none⟩ (.int .i64 t397)).heap[gb376]? = some (.cells #[.string t370, .int .i64 t371, .int .i64 t372, .int .i64 t373, .int .i64 t374] 40 (0, 0))) := ⟨by exact (far5 NB376_399.out BK376.out)⟩
                 have n3_ : Aside0 ((((((w80.setCell ⟨gb399, 0, none⟩ (.string t393)).setCell ⟨gb399, 1, none⟩ (.int .i64 t394)).setCell ⟨gb399, 2, none⟩ (.int .i64 t395)).setCell ⟨gb399, 3, none⟩ (.int .i64 t396)).setCell ⟨gb399, 4, none⟩ (.int .i64 t397)).heap[gb383]? = some (.cells #[.string t377, .int .i64 t378, .int .i64 t379, .int .i64 t380, .int .i64 t381] 40 (0, 0))) := ⟨by exact (far5 NB383_399.out BK383.out)⟩
                 have n4_ : Aside0 ((((((w80.setCell ⟨gb399, 0, none⟩ (.string t393)).setCell ⟨gb399, 1, none⟩ (.int .i64 t394)).setCell ⟨gb399, 2, none⟩ (.int .i64 t395)).setCell ⟨gb399, 3, none⟩ (.int .i64 t396)).setCell ⟨gb399, 4, none⟩ (.int .i64 t397)).heap[gb392]? = some (.cells #[.string t386, .int .i64 t387, .int .i64 t388, .int .i64 t389, .int .i64 t390] 40 (0, 0))) := ⟨by exact (far5 NB392_399.out BK392.out)⟩
                 have n5_ : Aside0 ((((((w80.setCell ⟨gb399, 0, none⟩ (.string t393)).setCell ⟨gb399, 1, none⟩ (.int .i64 t394)).setCell ⟨gb399, 2, none⟩ (.int .i64 t395)).setCell ⟨gb399, 3, none⟩ (.int .i64 t396)).setCell ⟨gb399, 4, none⟩ (.int .i64 t397)).heap[gb399]? = some (.cells #[.string t393, .int .i64 t394, .int .i64 t395, .int .i64 t396, .int .i64 t397] 40 (0, 0))) := ⟨by exact (put5 BK399.out)⟩
                 have n6_ : Aside0 (Below w.heap.size w (((((w80.setCell ⟨gb399, 0, none⟩ (.string t393)).setCell ⟨gb399, 1, none⟩ (.int .i64 t394)).setCell ⟨gb399, 2, none⟩ (.int .i64 t395)).setCell ⟨gb399, 3, none⟩ (.int .i64 t396)).setCell ⟨gb399, 4, none⟩ (.int .i64 t397))) := ⟨by repeat first | refine below_set ?_ GE356.out | refine below_set ?_ GE363.out | refine below_set ?_ GE376.out | refine below_set ?_ GE383.out | refine below_set ?_ GE392.out | refine below_set ?_ GE399.out | exact HB.out | apply below_alloc | apply pw_below_drewN | apply below_drew1⟩
                 (try clear BK356)
                 (try clear BK363)
                 (try clear BK376)
                 (try clear BK383)
                 (try clear BK392)
                 (try clear BK399)
                 (try clear HB)
                 generalize (((((w80.setCell ⟨gb399, 0, none⟩ (.string t393)).setCell ⟨gb399, 1, none⟩ (.int .i64 t394)).setCell ⟨gb399, 2, none⟩ (.int .i64 t395)).setCell ⟨gb399, 3, none⟩ (.int .i64 t396)).setCell ⟨gb399, 4, none⟩ (.int .i64 t397)) = w87 at n0_ n1_ n2_ n3_ n4_ n5_ n6_ ⊢
                 have BK356 := n0_
                 have BK363 := n1_
                 have BK376 := n2_
                 have BK383 := n3_
                 have BK392 := n4_
                 have BK399 := n5_
                 have HB := n6_
                 clear n0_ n1_ n2_ n3_ n4_ n5_ n6_
                 replace BK356 := Aside0.mk (blk_drew BK356.out); replace BK363 := Aside0.mk (blk_drew BK363.out); replace BK376 := Aside0.mk (blk_drew BK376.out); replace BK383 := Aside0.mk (blk_drew BK383.out); replace BK392 := Aside0.mk (blk_drew BK392.out); replace BK399 := Aside0.mk (blk_drew BK399.out); replace HB := Aside0.mk (below_drew1 HB.out)
                 refine start_ (n := 49) (S := fun w' => w'.cell? ⟨gb392, 0, none⟩ = some (.string t386) ∧ w'.cell? ⟨gb392, 1, none⟩ = some (.int .i64 t387) ∧ w'.cell? ⟨gb392, 2, none⟩ = some (.int .i64 t388) ∧ w'.cell? ⟨gb392, 3, none⟩ = some (.int .i64 t389) ∧ w'.cell? ⟨gb392, 4, none⟩ = some (.int .i64 t390) ∧ w'.cell? ⟨gb363, 0, none⟩ = some (.string t357) ∧ w'.cell? ⟨gb363, 1, none⟩ = some (.int .i64 t358) ∧ w'.cell? ⟨gb363, 2, none⟩ = some (.int .i64 t359) ∧ w'.cell? ⟨gb363, 3, none⟩ = some (.int .i64 t360) ∧ w'.cell? ⟨gb363, 4, none⟩ = some (.int .i64 t361) ∧ w'.cell? ⟨gb383, 0, none⟩ = some (.string t377) ∧ w'.cell? ⟨gb383, 1, none⟩ = some (.int .i64 t378) ∧ w'.cell? ⟨gb383, 2, none⟩ = some (.int .i64 t379) ∧ w'.cell? ⟨gb383, 3, none⟩ = some (.int .i64 t380) ∧ w'.cell? ⟨gb383, 4, none⟩ = some (.int .i64 t381)) (ds := []) m8_0_ (by kernel_rfl) rfl rfl ⟨(blk_cell BK392.out 0).trans rfl, (blk_cell BK392.out 1).trans rfl, (blk_cell BK392.out 2).trans rfl, (blk_cell BK392.out 3).trans rfl, (blk_cell BK392.out 4).trans rfl, (blk_cell BK363.out 0).trans rfl, (blk_cell BK363.out 1).trans rfl, (blk_cell BK363.out 2).trans rfl, (blk_cell BK363.out 3).trans rfl, (blk_cell BK363.out 4).trans rfl, (blk_cell BK383.out 0).trans rfl, (blk_cell BK383.out 1).trans rfl, (blk_cell BK383.out 2).trans rfl, (blk_cell BK383.out 3).trans rfl, (blk_cell BK383.out 4).trans rfl⟩ (fun hHeld => ?_); refine with_tabW backseatlaw04_CellMarks.tab14 backseatlaw04_CellMarks.bits14 (fun HT_ HW_ => ?_)
                 generalize w87.drew = w88 at BK356 BK363 BK376 BK383 BK392 BK399 HB hHeld ⊢
                 refine take_ (i := 0) (N := some 79) (v := ?_) (a' := ?_) m8_1_ rfl rfl (take_ofW HT_.out HW_.out (by kernel_rfl)) (fun _ _ _ h => h) (Or.inl ⟨by rfl, ?_⟩) hHeld ?_ ?_; rotate_left; (·rintro w' ⟨s0, s1, s2, s3, s4, s5, s6, s7, s8, s9, s10, s11, s12, s13, s14⟩; go_simp; with_reducible rfl); rotate_left; (·simp only [Act.put, s1, s2, s3, i64_w, i32_w]; rfl)
                 refine one_ (i := 1) (N := some 80) m8_2_ rfl rfl (one_of HT_.out (by kernel_rfl)) (by decide) (fun K hK => ?_)
                 refine goes_ Tryd.func25 (by kernel_rfl) rfl #[.agg #[.string t386, .int .i64 t387, .int .i64 t388, .int .i64 t389, .int .i64 t390]] (by rfl) rfl rfl (by (try simp only [List.map_toArray, List.map_cons, List.map_nil]); first | done | rfl | (simp only [List.length_drop, List.length_take]; rfl)) ?_
                 with_reducible refine (cell_Right.calls kj10 t386 t387 t388 t389 t390 true _ A57.out).mono ?_
                 rintro e w89 ⟨rfl, hb⟩
                 refine ⟨_, rfl, ?_⟩
                 replace BK356 := Aside0.mk (bb hb BK356.out); replace BK363 := Aside0.mk (bb hb BK363.out); replace BK376 := Aside0.mk (bb hb BK376.out); replace BK383 := Aside0.mk (bb hb BK383.out); replace BK392 := Aside0.mk (bb hb BK392.out); replace BK399 := Aside0.mk (bb hb BK399.out); replace HB := Aside0.mk (below_step (by repeat first | refine below_set ?_ GE356.out | refine below_set ?_ GE363.out | refine below_set ?_ GE376.out | refine below_set ?_ GE383.out | refine below_set ?_ GE392.out | refine below_set ?_ GE399.out | exact HB.out | apply below_alloc | apply pw_below_drewN | apply below_drew1) hb)
                 (try clear hb)
                 (try clear hb2)
                 (try clear hk)
                 (try clear hi)
                 refine hK.out _ _ ⟨(blk_cell BK392.out 0).trans rfl, (blk_cell BK392.out 1).trans rfl, (blk_cell BK392.out 2).trans rfl, (blk_cell BK392.out 3).trans rfl, (blk_cell BK392.out 4).trans rfl, (blk_cell BK363.out 0).trans rfl, (blk_cell BK363.out 1).trans rfl, (blk_cell BK363.out 2).trans rfl, (blk_cell BK363.out 3).trans rfl, (blk_cell BK363.out 4).trans rfl, (blk_cell BK383.out 0).trans rfl, (blk_cell BK383.out 1).trans rfl, (blk_cell BK383.out 2).trans rfl, (blk_cell BK383.out 3).trans rfl, (blk_cell BK383.out 4).trans rfl⟩ (fun hHeld => ?_)
                 clear hK K
                 refine norm_ (a' := ?_) ?_ ?_
                 rotate_left
                 ·show Act.put _ (some 80) _ = _
                  simp only [Act.put, s1, s2, s3, i64_w, i32_w]
                  rfl
                 refine pu HT_.out (i := 2) (N := some 81) (v := ?_) (a' := ?_) m8_3_ rfl rfl (by kernel_rfl) (fun _ _ _ h => h) (by rfl) ?_ ?_ ?_; rotate_left; (·intro w'; go_simp; with_reducible rfl); rotate_left; (·simp only [Act.put, s1, s2, s3, i64_w, i32_w]; rfl)
                 refine pu HT_.out (i := 3) (N := some 82) (v := ?_) (a' := ?_) m8_4_ rfl rfl (by kernel_rfl) (fun _ _ _ h => h) (by rfl) ?_ ?_ ?_; rotate_left; (·intro w'; go_simp; with_reducible rfl); rotate_left; (·simp only [Act.put, s1, s2, s3, i64_w, i32_w]; rfl)
                 refine pu HT_.out (i := 5) (N := some 84) (v := ?_) (a' := ?_) m8_5_ rfl rfl (by kernel_rfl) (fun _ _ _ h => h) (by rfl) ?_ ?_ ?_; rotate_left; (·intro w'; go_simp; with_reducible rfl); rotate_left; (·simp only [Act.put, s1, s2, s3, i64_w, i32_w]; rfl)
                 refine take_ (i := 4) (N := some 83) (v := ?_) (a' := ?_) m8_6_ rfl rfl (take_ofW HT_.out HW_.out (by kernel_rfl)) (fun _ _ _ h => h) (Or.inl ⟨by rfl, ?_⟩) hHeld ?_ ?_; rotate_left; (·rintro w' ⟨s0, s1, s2, s3, s4, s5, s6, s7, s8, s9, s10, s11, s12, s13, s14⟩; go_simp; with_reducible rfl); rotate_left; (·simp only [Act.put, s1, s2, s3, i64_w, i32_w]; rfl)
                 refine take_ (i := 6) (N := some 85) (v := ?_) (a' := ?_) m8_7_ rfl rfl (take_ofW HT_.out HW_.out (by kernel_rfl)) (fun _ _ _ h => h) (Or.inl ⟨by rfl, ?_⟩) hHeld ?_ ?_; rotate_left; (·rintro w' ⟨s0, s1, s2, s3, s4, s5, s6, s7, s8, s9, s10, s11, s12, s13, s14⟩; go_simp; with_reducible rfl); rotate_left; (·simp only [Act.put, s1, s2, s3, i64_w, i32_w]; rfl)
                 refine pu HT_.out (i := 7) (N := some 86) (v := ?_) (a' := ?_) m8_8_ rfl rfl (by kernel_rfl) (fun _ _ _ h => h) (by rfl) ?_ ?_ ?_; rotate_left; (·intro w'; go_simp; with_reducible rfl); rotate_left; (·simp only [Act.put, s1, s2, s3, i64_w, i32_w]; rfl)
                 refine pu HT_.out (i := 8) (N := some 87) (v := ?_) (a' := ?_) m8_9_ rfl rfl (by kernel_rfl) (fun _ _ _ h => h) (by rfl) ?_ ?_ ?_; rotate_left; (·intro w'; go_simp; with_reducible rfl); rotate_left; (·simp only [Act.put, s1, s2, s3, i64_w, i32_w]; rfl)
                 refine pu HT_.out (i := 9) (N := some 88) (v := ?_) (a' := ?_) m8_10_ rfl rfl (by kernel_rfl) (fun _ _ _ h => h) (by rfl) ?_ ?_ ?_; rotate_left; (·intro w'; go_simp; with_reducible rfl); rotate_left; (·simp only [Act.put, s1, s2, s3, i64_w, i32_w]; rfl)
                 refine pu HT_.out (i := 10) (N := some 89) (v := ?_) (a' := ?_) m8_11_ rfl rfl (by kernel_rfl) (fun _ _ _ h => h) (by rfl) ?_ ?_ ?_; rotate_left; (·intro w'; go_simp; with_reducible rfl); rotate_left; (·simp only [Act.put, s1, s2, s3, i64_w, i32_w]; rfl)
                 refine pu HT_.out (i := 13) (N := some 92) (v := ?_) (a' := ?_) m8_12_ rfl rfl (by kernel_rfl) (fun _ _ _ h => h) (by rfl) ?_ ?_ ?_; rotate_left; (·intro w'; go_simp; with_reducible rfl); rotate_left; (·simp only [Act.put, s1, s2, s3, i64_w, i32_w]; rfl)
                 refine take_ (i := 11) (N := some 90) (v := ?_) (a' := ?_) m8_13_ rfl rfl (take_ofW HT_.out HW_.out (by kernel_rfl)) (fun _ _ _ h => h) (Or.inl ⟨by rfl, ?_⟩) hHeld ?_ ?_; rotate_left; (·rintro w' ⟨s0, s1, s2, s3, s4, s5, s6, s7, s8, s9, s10, s11, s12, s13, s14⟩; go_simp; with_reducible rfl); rotate_left; (·simp only [Act.put, s1, s2, s3, i64_w, i32_w]; rfl)
                 refine pu HT_.out (i := 12) (N := some 91) (v := ?_) (a' := ?_) m8_14_ rfl rfl (by kernel_rfl) (fun _ _ _ h => h) (by rfl) ?_ ?_ ?_; rotate_left; (·intro w'; go_simp; with_reducible rfl); rotate_left; (·simp only [Act.put, s1, s2, s3, i64_w, i32_w]; rfl)
                 refine take_ (i := 14) (N := some 93) (v := ?_) (a' := ?_) m8_15_ rfl rfl (take_ofW HT_.out HW_.out (by kernel_rfl)) (fun _ _ _ h => h) (Or.inl ⟨by rfl, ?_⟩) hHeld ?_ ?_; rotate_left; (·rintro w' ⟨s0, s1, s2, s3, s4, s5, s6, s7, s8, s9, s10, s11, s12, s13, s14⟩; go_simp; with_reducible rfl); rotate_left; (·simp only [Act.put, s1, s2, s3, i64_w, i32_w]; rfl)
                 refine pu HT_.out (i := 15) (N := some 94) (v := ?_) (a' := ?_) m8_16_ rfl rfl (by kernel_rfl) (fun _ _ _ h => h) (by rfl) ?_ ?_ ?_; rotate_left; (·intro w'; go_simp; with_reducible rfl); rotate_left; (·simp only [Act.put, s1, s2, s3, i64_w, i32_w]; rfl)
                 refine pu HT_.out (i := 16) (N := some 95) (v := ?_) (a' := ?_) m8_17_ rfl rfl (by kernel_rfl) (fun _ _ _ h => h) (by rfl) ?_ ?_ ?_; rotate_left; (·intro w'; go_simp; with_reducible rfl); rotate_left; (·simp only [Act.put, s1, s2, s3, i64_w, i32_w]; rfl)
                 refine pu HT_.out (i := 17) (N := some 96) (v := ?_) (a' := ?_) m8_18_ rfl rfl (by kernel_rfl) (fun _ _ _ h => h) (by rfl) ?_ ?_ ?_; rotate_left; (·intro w'; go_simp; with_reducible rfl); rotate_left; (·simp only [Act.put, s1, s2, s3, i64_w, i32_w]; rfl)
                 refine pu HT_.out (i := 18) (N := some 97) (v := ?_) (a' := ?_) m8_19_ rfl rfl (by kernel_rfl) (fun _ _ _ h => h) (by rfl) ?_ ?_ ?_; rotate_left; (·intro w'; go_simp; with_reducible rfl); rotate_left; (·simp only [Act.put, s1, s2, s3, i64_w, i32_w]; rfl)
                 refine pu HT_.out (i := 19) (N := some 98) (v := ?_) (a' := ?_) m8_20_ rfl rfl (by kernel_rfl) (fun _ _ _ h => h) (by rfl) ?_ ?_ ?_; rotate_left; (·intro w'; go_simp; with_reducible rfl); rotate_left; (·simp only [Act.put, s1, s2, s3, i64_w, i32_w]; rfl)
                 refine pu HT_.out (i := 21) (N := some 100) (v := ?_) (a' := ?_) m8_21_ rfl rfl (by kernel_rfl) (fun _ _ _ h => h) (by rfl) ?_ ?_ ?_; rotate_left; (·intro w'; go_simp; with_reducible rfl); rotate_left; (·simp only [Act.put, s1, s2, s3, i64_w, i32_w]; rfl)
                 refine pu HT_.out (i := 25) (N := some 104) (v := ?_) (a' := ?_) m8_22_ rfl rfl (by kernel_rfl) (fun _ _ _ h => h) (by rfl) ?_ ?_ ?_; rotate_left; (·intro w'; go_simp; with_reducible rfl); rotate_left; (·simp only [Act.put, s1, s2, s3, i64_w, i32_w]; rfl)
                 refine take_ (i := 20) (N := some 99) (v := ?_) (a' := ?_) m8_23_ rfl rfl (take_ofW HT_.out HW_.out (by kernel_rfl)) (fun _ _ _ h => h) (Or.inl ⟨by rfl, ?_⟩) hHeld ?_ ?_; rotate_left; (·rintro w' ⟨s0, s1, s2, s3, s4, s5, s6, s7, s8, s9, s10, s11, s12, s13, s14⟩; go_simp; with_reducible rfl); rotate_left; (·simp only [Act.put, s1, s2, s3, i64_w, i32_w]; rfl)
                 refine take_ (i := 22) (N := some 101) (v := ?_) (a' := ?_) m8_24_ rfl rfl (take_ofW HT_.out HW_.out (by kernel_rfl)) (fun _ _ _ h => h) (Or.inl ⟨by rfl, ?_⟩) hHeld ?_ ?_; rotate_left; (·rintro w' ⟨s0, s1, s2, s3, s4, s5, s6, s7, s8, s9, s10, s11, s12, s13, s14⟩; go_simp; with_reducible rfl); rotate_left; (·simp only [Act.put, s1, s2, s3, i64_w, i32_w]; rfl)
                 refine pu HT_.out (i := 23) (N := some 102) (v := ?_) (a' := ?_) m8_25_ rfl rfl (by kernel_rfl) (fun _ _ _ h => h) (by rfl) ?_ ?_ ?_; rotate_left; (·intro w'; go_simp; with_reducible rfl); rotate_left; (·simp only [Act.put, s1, s2, s3, i64_w, i32_w]; rfl)
                 refine pu HT_.out (i := 24) (N := some 103) (v := ?_) (a' := ?_) m8_26_ rfl rfl (by kernel_rfl) (fun _ _ _ h => h) (by rfl) ?_ ?_ ?_; rotate_left; (·intro w'; go_simp; with_reducible rfl); rotate_left; (·simp only [Act.put, s1, s2, s3, i64_w, i32_w]; rfl)
                 refine take_ (i := 26) (N := some 105) (v := ?_) (a' := ?_) m8_27_ rfl rfl (take_ofW HT_.out HW_.out (by kernel_rfl)) (fun _ _ _ h => h) (Or.inl ⟨by rfl, ?_⟩) hHeld ?_ ?_; rotate_left; (·rintro w' ⟨s0, s1, s2, s3, s4, s5, s6, s7, s8, s9, s10, s11, s12, s13, s14⟩; go_simp; with_reducible rfl); rotate_left; (·simp only [Act.put, s1, s2, s3, i64_w, i32_w]; rfl)
                 refine pu HT_.out (i := 27) (N := some 106) (v := ?_) (a' := ?_) m8_28_ rfl rfl (by kernel_rfl) (fun _ _ _ h => h) (by rfl) ?_ ?_ ?_; rotate_left; (·intro w'; go_simp; with_reducible rfl); rotate_left; (·simp only [Act.put, s1, s2, s3, i64_w, i32_w]; rfl)
                 refine pu HT_.out (i := 28) (N := some 107) (v := ?_) (a' := ?_) m8_29_ rfl rfl (by kernel_rfl) (fun _ _ _ h => h) (by rfl) ?_ ?_ ?_; rotate_left; (·intro w'; go_simp; with_reducible rfl); rotate_left; (·simp only [Act.put, s1, s2, s3, i64_w, i32_w]; rfl)
                 refine pu HT_.out (i := 29) (N := some 108) (v := ?_) (a' := ?_) m8_30_ rfl rfl (by kernel_rfl) (fun _ _ _ h => h) (by rfl) ?_ ?_ ?_; rotate_left; (·intro w'; go_simp; with_reducible rfl); rotate_left; (·simp only [Act.put, s1, s2, s3, i64_w, i32_w]; rfl)
                 refine pu HT_.out (i := 30) (N := some 109) (v := ?_) (a' := ?_) m8_31_ rfl rfl (by kernel_rfl) (fun _ _ _ h => h) (by rfl) ?_ ?_ ?_; rotate_left; (·intro w'; go_simp; with_reducible rfl); rotate_left; (·simp only [Act.put, s1, s2, s3, i64_w, i32_w]; rfl)
                 refine pu HT_.out (i := 32) (N := some 111) (v := ?_) (a' := ?_) m8_32_ rfl rfl (by kernel_rfl) (fun _ _ _ h => h) (by rfl) ?_ ?_ ?_; rotate_left; (·intro w'; go_simp; with_reducible rfl); rotate_left; (·simp only [Act.put, s1, s2, s3, i64_w, i32_w]; rfl)
                 refine pu HT_.out (i := 36) (N := some 115) (v := ?_) (a' := ?_) m8_33_ rfl rfl (by kernel_rfl) (fun _ _ _ h => h) (by rfl) ?_ ?_ ?_; rotate_left; (·intro w'; go_simp; with_reducible rfl); rotate_left; (·simp only [Act.put, s1, s2, s3, i64_w, i32_w]; rfl)
                 refine take_ (i := 31) (N := some 110) (v := ?_) (a' := ?_) m8_34_ rfl rfl (take_ofW HT_.out HW_.out (by kernel_rfl)) (fun _ _ _ h => h) (Or.inl ⟨by rfl, ?_⟩) hHeld ?_ ?_; rotate_left; (·rintro w' ⟨s0, s1, s2, s3, s4, s5, s6, s7, s8, s9, s10, s11, s12, s13, s14⟩; go_simp; with_reducible rfl); rotate_left; (·simp only [Act.put, s1, s2, s3, i64_w, i32_w]; rfl)
                 refine take_ (i := 33) (N := some 112) (v := ?_) (a' := ?_) m8_35_ rfl rfl (take_ofW HT_.out HW_.out (by kernel_rfl)) (fun _ _ _ h => h) (Or.inl ⟨by rfl, ?_⟩) hHeld ?_ ?_; rotate_left; (·rintro w' ⟨s0, s1, s2, s3, s4, s5, s6, s7, s8, s9, s10, s11, s12, s13, s14⟩; go_simp; with_reducible rfl); rotate_left; (·simp only [Act.put, s1, s2, s3, i64_w, i32_w]; rfl)
                 refine pu HT_.out (i := 34) (N := some 113) (v := ?_) (a' := ?_) m8_36_ rfl rfl (by kernel_rfl) (fun _ _ _ h => h) (by rfl) ?_ ?_ ?_; rotate_left; (·intro w'; go_simp; with_reducible rfl); rotate_left; (·simp only [Act.put, s1, s2, s3, i64_w, i32_w]; rfl)
                 refine pu HT_.out (i := 35) (N := some 114) (v := ?_) (a' := ?_) m8_37_ rfl rfl (by kernel_rfl) (fun _ _ _ h => h) (by rfl) ?_ ?_ ?_; rotate_left; (·intro w'; go_simp; with_reducible rfl); rotate_left; (·simp only [Act.put, s1, s2, s3, i64_w, i32_w]; rfl)
                 refine take_ (i := 37) (N := some 116) (v := ?_) (a' := ?_) m8_38_ rfl rfl (take_ofW HT_.out HW_.out (by kernel_rfl)) (fun _ _ _ h => h) (Or.inl ⟨by rfl, ?_⟩) hHeld ?_ ?_; rotate_left; (·rintro w' ⟨s0, s1, s2, s3, s4, s5, s6, s7, s8, s9, s10, s11, s12, s13, s14⟩; go_simp; with_reducible rfl); rotate_left; (·simp only [Act.put, s1, s2, s3, i64_w, i32_w]; rfl)
                 refine pu HT_.out (i := 38) (N := some 117) (v := ?_) (a' := ?_) m8_39_ rfl rfl (by kernel_rfl) (fun _ _ _ h => h) (by rfl) ?_ ?_ ?_; rotate_left; (·intro w'; go_simp; with_reducible rfl); rotate_left; (·simp only [Act.put, s1, s2, s3, i64_w, i32_w]; rfl)
                 refine pu HT_.out (i := 39) (N := some 118) (v := ?_) (a' := ?_) m8_40_ rfl rfl (by kernel_rfl) (fun _ _ _ h => h) (by rfl) ?_ ?_ ?_; rotate_left; (·intro w'; go_simp; with_reducible rfl); rotate_left; (·simp only [Act.put, s1, s2, s3, i64_w, i32_w]; rfl)
                 refine pu HT_.out (i := 40) (N := some 119) (v := ?_) (a' := ?_) m8_41_ rfl rfl (by kernel_rfl) (fun _ _ _ h => h) (by rfl) ?_ ?_ ?_; rotate_left; (·intro w'; go_simp; with_reducible rfl); rotate_left; (·simp only [Act.put, s1, s2, s3, i64_w, i32_w]; rfl)
                 refine pu HT_.out (i := 41) (N := some 120) (v := ?_) (a' := ?_) m8_42_ rfl rfl (by kernel_rfl) (fun _ _ _ h => h) (by rfl) ?_ ?_ ?_; rotate_left; (·intro w'; go_simp; with_reducible rfl); rotate_left; (·simp only [Act.put, s1, s2, s3, i64_w, i32_w]; rfl)
                 refine pu HT_.out (i := 42) (N := some 121) (v := ?_) (a' := ?_) m8_43_ rfl rfl (by kernel_rfl) (fun _ _ _ h => h) (by rfl) ?_ ?_ ?_; rotate_left; (·intro w'; go_simp; with_reducible rfl); rotate_left; (·simp only [Act.put, s1, s2, s3, i64_w, i32_w]; rfl)
                 refine pu HT_.out (i := 43) (N := some 122) (v := ?_) (a' := ?_) m8_44_ rfl rfl (by kernel_rfl) (fun _ _ _ h => h) (by rfl) ?_ ?_ ?_; rotate_left; (·intro w'; go_simp; with_reducible rfl); rotate_left; (·simp only [Act.put, s1, s2, s3, i64_w, i32_w]; rfl)
                 refine pure_ (i := 44) (N := some 123) (v := undef) (a' := ?_) m8_45_ rfl rfl (any_of HT_.out (by kernel_rfl)) (fun _ _ _ h => h) (Or.inr ⟨by rfl, rfl⟩) ?_ ?_
                 rotate_left
                 ·simp only [Act.put, s1, s2, s3, i64_w, i32_w]
                  rfl
                 refine pure_ (i := 45) (N := some 124) (v := undef) (a' := ?_) m8_46_ rfl rfl (any_of HT_.out (by kernel_rfl)) (fun _ _ _ h => h) (Or.inr ⟨by rfl, rfl⟩) ?_ ?_
                 rotate_left
                 ·simp only [Act.put, s1, s2, s3, i64_w, i32_w]
                  rfl
                 refine pu HT_.out (i := 46) (N := some 125) (v := ?_) (a' := ?_) m8_47_ rfl rfl (by kernel_rfl) (fun _ _ _ h => h) (by rfl) ?_ ?_ ?_; rotate_left; (·intro w'; go_simp; with_reducible rfl); rotate_left; (·simp only [Act.put, s1, s2, s3, i64_w, i32_w]; rfl)
                 refine pu HT_.out (i := 47) (N := some 126) (v := ?_) (a' := ?_) m8_48_ rfl rfl (by kernel_rfl) (fun _ _ _ h => h) (by rfl) ?_ ?_ ?_; rotate_left; (·intro w'; go_simp; with_reducible rfl); rotate_left; (·simp only [Act.put, s1, s2, s3, i64_w, i32_w]; rfl)
                 refine pu HT_.out (i := 48) (N := some 10) (v := ?_) (a' := ?_) m8_49_ rfl rfl (by kernel_rfl) (fun _ _ _ h => h) (by rfl) ?_ ?_ ?_; rotate_left; (·intro w'; go_simp; with_reducible rfl); rotate_left; (·simp only [Act.put, s1, s2, s3, i64_w, i32_w]; rfl)
                 refine done_ (done_of HT_.out (by kernel_rfl)) ?_
                 try go_wp2
                 go_ret
                 exact ⟨by first | rfl | (simp [errW_none, errW_some] <;> rfl) | (simp [*, errW_none, errW_some] <;> rfl), by repeat first | refine below_set ?_ GE356.out | refine below_set ?_ GE363.out | refine below_set ?_ GE376.out | refine below_set ?_ GE383.out | refine below_set ?_ GE392.out | refine below_set ?_ GE399.out | exact HB.out | apply below_alloc | apply pw_below_drewN | apply below_drew1⟩
                ·rw [if_neg c67] at H
                 have c67b0 : (t398 == 7) = false := beq_eq_false_iff_ne.mpr c67
                 have c67b1 : (t398 != 7) = true := bne_iff_ne.mpr c67
                 obtain rfl := Option.some.inj H
                 have hnb90 := NB383_356.out
                 have hnc90 := NB356_383.out
                 have hnb91 := NB383_363.out
                 have hnc91 := NB363_383.out
                 have hnb92 := NB383_376.out
                 have hnc92 := NB376_383.out
                 have hcz93_0 : wc.cell? ⟨gb383, 0, none⟩ = some (.string t377) := (blk_cell BK383.out 0).trans rfl
                 have hcz93_1 : wc.cell? ⟨gb383, 1, none⟩ = some (.int .i64 t378) := (blk_cell BK383.out 1).trans rfl
                 have hcz93_2 : wc.cell? ⟨gb383, 2, none⟩ = some (.int .i64 t379) := (blk_cell BK383.out 2).trans rfl
                 have hcz93_3 : wc.cell? ⟨gb383, 3, none⟩ = some (.int .i64 t380) := (blk_cell BK383.out 3).trans rfl
                 have hcz93_4 : wc.cell? ⟨gb383, 4, none⟩ = some (.int .i64 t381) := (blk_cell BK383.out 4).trans rfl
                 have hfz93_0 := blk_frozen BK383.out 0
                 have hfz93_1 := blk_frozen BK383.out 1
                 have hfz93_2 := blk_frozen BK383.out 2
                 have hfz93_3 := blk_frozen BK383.out 3
                 have hfz93_4 := blk_frozen BK383.out 4
                 try go_wp2_with (first | ((with_reducible refine gate_callee (f := 24) rfl ?_); refine goesL_ (some 66) rfl rfl Tryd.func24 (by kernel_rfl) rfl #[.agg #[.string t377, .int .i64 t378, .int .i64 t379, .int .i64 t380, .int .i64 t381], .int .i32 a2] rfl (by (try simp only [List.map_toArray, List.map_cons, List.map_nil]); first | done | rfl | (simp only [List.length_drop, List.length_take]; rfl)) ?_; (with_reducible refine (cell_Mark.calls kj10 t377 t378 t379 t380 t381 a2 t386 t387 t388 t389 t390 t391 _ A54.out).mono ?_); rintro e w94 ⟨rfl, hb⟩; refine ⟨_, rfl, ?_⟩; replace BK356 := Aside0.mk (bb hb BK356.out); replace BK363 := Aside0.mk (bb hb BK363.out); replace BK376 := Aside0.mk (bb hb BK376.out); replace BK383 := Aside0.mk (bb hb BK383.out); replace HB := Aside0.mk (below_step (by repeat first | refine below_set ?_ GE356.out | refine below_set ?_ GE363.out | refine below_set ?_ GE376.out | refine below_set ?_ GE383.out | exact HB.out | apply below_alloc | apply pw_below_drewN | apply below_drew1) hb); (try clear hb); (try clear hb2); (try clear hk); (try clear hi)) | ((with_reducible refine gate_dst (N := 17) rfl ?_); (try (refine gate_guard (by rfl) ?_; dsimp only)); refine box_event ?hg (N := 17) ?hd (cs := #[.string (⟨#[]⟩ : ByteArray), .int .i64 0, .int .i64 0, .int .i64 0, .int .i64 0]) (t := 40) ?hr ?_; (case hd => rfl); (case hg => rfl); (case hr => first | (go_simp; done) | (go_simp; rfl)); intro gb392 hg w95 hbox hb; have BK392 := Aside0.mk (hbox); have GW392 := Aside0.mk ((by rw [hg]; exact (below_size (by repeat first | refine below_set ?_ GE356.out | refine below_set ?_ GE363.out | refine below_set ?_ GE376.out | refine below_set ?_ GE383.out | exact HB.out | apply below_alloc | apply pw_below_drewN | apply below_drew1)) : w.heap.size ≤ gb392)); have GE392 := GW392; have NB356_392 := Aside0.mk ((by rw [hg]; exact lt1 BK356.out : gb356 ≠ gb392)); have NB392_356 := Aside0.mk ((by rw [hg]; exact gt1 BK356.out : gb392 ≠ gb356)); have NB363_392 := Aside0.mk ((by rw [hg]; exact lt1 BK363.out : gb363 ≠ gb392)); have NB392_363 := Aside0.mk ((by rw [hg]; exact gt1 BK363.out : gb392 ≠ gb363)); have NB376_392 := Aside0.mk ((by rw [hg]; exact lt1 BK376.out : gb376 ≠ gb392)); have NB392_376 := Aside0.mk ((by rw [hg]; exact gt1 BK376.out : gb392 ≠ gb376)); have NB383_392 := Aside0.mk ((by rw [hg]; exact lt1 BK383.out : gb383 ≠ gb392)); have NB392_383 := Aside0.mk ((by rw [hg]; exact gt1 BK383.out : gb392 ≠ gb383)); replace BK356 := Aside0.mk (bb hb BK356.out); replace BK363 := Aside0.mk (bb hb BK363.out); replace BK376 := Aside0.mk (bb hb BK376.out); replace BK383 := Aside0.mk (bb hb BK383.out); replace HB := Aside0.mk (below_step (by repeat first | refine below_set ?_ GE356.out | refine below_set ?_ GE363.out | refine below_set ?_ GE376.out | refine below_set ?_ GE383.out | exact HB.out | apply below_alloc | apply pw_below_drewN | apply below_drew1) hb); clear hb hbox hg; have hnb96 := NB392_356.out; have hnc96 := NB356_392.out; have hnb97 := NB392_363.out; have hnc97 := NB363_392.out; have hnb98 := NB392_376.out; have hnc98 := NB376_392.out; have hnb99 := NB392_383.out; have hnc99 := NB383_392.out; obtain ⟨hcz100_0, hcz100_1, hcz100_2, hcz100_3, hcz100_4, hfz100_0, hfz100_1, hfz100_2, hfz100_3, hfz100_4⟩ := cz5 BK392.out) | ((with_reducible refine gate_callee (f := 24) rfl ?_); refine goesL_ (some 76) rfl rfl Tryd.func24 (by kernel_rfl) rfl #[.agg #[.string t386, .int .i64 t387, .int .i64 t388, .int .i64 t389, .int .i64 t390], .int .i32 a3] rfl (by (try simp only [List.map_toArray, List.map_cons, List.map_nil]); first | done | rfl | (simp only [List.length_drop, List.length_take]; rfl)) ?_; (with_reducible refine (cell_Mark.calls kj10 t386 t387 t388 t389 t390 a3 t393 t394 t395 t396 t397 t398 _ A56.out).mono ?_); rintro e w101 ⟨rfl, hb⟩; refine ⟨_, rfl, ?_⟩; replace BK356 := Aside0.mk (bb hb (far5 NB356_392.out BK356.out)); replace BK363 := Aside0.mk (bb hb (far5 NB363_392.out BK363.out)); replace BK376 := Aside0.mk (bb hb (far5 NB376_392.out BK376.out)); replace BK383 := Aside0.mk (bb hb (far5 NB383_392.out BK383.out)); replace BK392 := Aside0.mk (bb hb (put5 BK392.out)); replace HB := Aside0.mk (below_step (by repeat first | refine below_set ?_ GE356.out | refine below_set ?_ GE363.out | refine below_set ?_ GE376.out | refine below_set ?_ GE383.out | refine below_set ?_ GE392.out | exact HB.out | apply below_alloc | apply pw_below_drewN | apply below_drew1) hb); (try clear hb); (try clear hb2); (try clear hk); (try clear hi)) | ((with_reducible refine gate_dst (N := 19) rfl ?_); (try (refine gate_guard (by rfl) ?_; dsimp only)); refine box_event ?hg (N := 19) ?hd (cs := #[.string (⟨#[]⟩ : ByteArray), .int .i64 0, .int .i64 0, .int .i64 0, .int .i64 0]) (t := 40) ?hr ?_; (case hd => rfl); (case hg => rfl); (case hr => first | (go_simp; done) | (go_simp; rfl)); intro gb399 hg w102 hbox hb; have BK399 := Aside0.mk (hbox); have GW399 := Aside0.mk ((by rw [hg]; exact (below_size (by repeat first | refine below_set ?_ GE356.out | refine below_set ?_ GE363.out | refine below_set ?_ GE376.out | refine below_set ?_ GE383.out | refine below_set ?_ GE392.out | exact HB.out | apply below_alloc | apply pw_below_drewN | apply below_drew1)) : w.heap.size ≤ gb399)); have GE399 := GW399; have NB356_399 := Aside0.mk ((by rw [hg]; exact lt1 BK356.out : gb356 ≠ gb399)); have NB399_356 := Aside0.mk ((by rw [hg]; exact gt1 BK356.out : gb399 ≠ gb356)); have NB363_399 := Aside0.mk ((by rw [hg]; exact lt1 BK363.out : gb363 ≠ gb399)); have NB399_363 := Aside0.mk ((by rw [hg]; exact gt1 BK363.out : gb399 ≠ gb363)); have NB376_399 := Aside0.mk ((by rw [hg]; exact lt1 BK376.out : gb376 ≠ gb399)); have NB399_376 := Aside0.mk ((by rw [hg]; exact gt1 BK376.out : gb399 ≠ gb376)); have NB383_399 := Aside0.mk ((by rw [hg]; exact lt1 BK383.out : gb383 ≠ gb399)); have NB399_383 := Aside0.mk ((by rw [hg]; exact gt1 BK383.out : gb399 ≠ gb383)); have NB392_399 := Aside0.mk ((by rw [hg]; exact lt1 BK392.out : gb392 ≠ gb399)); have NB399_392 := Aside0.mk ((by rw [hg]; exact gt1 BK392.out : gb399 ≠ gb392)); replace BK356 := Aside0.mk (bb hb BK356.out); replace BK363 := Aside0.mk (bb hb BK363.out); replace BK376 := Aside0.mk (bb hb BK376.out); replace BK383 := Aside0.mk (bb hb BK383.out); replace BK392 := Aside0.mk (bb hb BK392.out); replace HB := Aside0.mk (below_step (by repeat first | refine below_set ?_ GE356.out | refine below_set ?_ GE363.out | refine below_set ?_ GE376.out | refine below_set ?_ GE383.out | refine below_set ?_ GE392.out | exact HB.out | apply below_alloc | apply pw_below_drewN | apply below_drew1) hb); clear hb hbox hg; have hnb103 := NB399_356.out; have hnc103 := NB356_399.out; have hnb104 := NB399_363.out; have hnc104 := NB363_399.out; have hnb105 := NB399_376.out; have hnc105 := NB376_399.out; have hnb106 := NB399_383.out; have hnc106 := NB383_399.out; have hnb107 := NB399_392.out; have hnc107 := NB392_399.out; obtain ⟨hcz108_0, hcz108_1, hcz108_2, hcz108_3, hcz108_4, hfz108_0, hfz108_1, hfz108_2, hfz108_3, hfz108_4⟩ := cz5 BK399.out))
                 have n0_ : Aside0 ((((((w102.setCell ⟨gb399, 0, none⟩ (.string t393)).setCell ⟨gb399, 1, none⟩ (.int .i64 t394)).setCell ⟨gb399, 2, none⟩ (.int .i64 t395)).setCell ⟨gb399, 3, none⟩ (.int .i64 t396)).setCell ⟨gb399, 4, none⟩ (.int .i64 t397)).heap[gb356]? = some (.cells #[.int .i64 a4_0, .int .i64 a4_1, .int .i64 a4_2] 38 (0, 0))) := ⟨by exact (far5 NB356_399.out BK356.out)⟩
                 have n1_ : Aside0 ((((((w102.setCell ⟨gb399, 0, none⟩ (.string t393)).setCell ⟨gb399, 1, none⟩ (.int .i64 t394)).setCell ⟨gb399, 2, none⟩ (.int .i64 t395)).setCell ⟨gb399, 3, none⟩ (.int .i64 t396)).setCell ⟨gb399, 4, none⟩ (.int .i64 t397)).heap[gb363]? = some (.cells #[.string t357, .int .i64 t358, .int .i64 t359, .int .i64 t360, .int .i64 t361] 40 (0, 0))) := ⟨by exact (far5 NB363_399.out BK363.out)⟩
                 have n2_ : Aside0 ((((((w102.setCell ⟨gb399, 0, none⟩ (.string t393)).setCell ⟨gb399, 1, none⟩ (.int .i64 t394)).setCell ⟨gb399, 2, none⟩ (.int .i64 t395)).setCell ⟨gb399, 3, none⟩ (.int .i64 t396)).setCell ⟨gb399, 4, none⟩ (.int .i64 t397)).heap[gb376]? = some (.cells #[.string t370, .int .i64 t371, .int .i64 t372, .int .i64 t373, .int .i64 t374] 40 (0, 0))) := ⟨by exact (far5 NB376_399.out BK376.out)⟩
                 have n3_ : Aside0 ((((((w102.setCell ⟨gb399, 0, none⟩ (.string t393)).setCell ⟨gb399, 1, none⟩ (.int .i64 t394)).setCell ⟨gb399, 2, none⟩ (.int .i64 t395)).setCell ⟨gb399, 3, none⟩ (.int .i64 t396)).setCell ⟨gb399, 4, none⟩ (.int .i64 t397)).heap[gb383]? = some (.cells #[.string t377, .int .i64 t378, .int .i64 t379, .int .i64 t380, .int .i64 t381] 40 (0, 0))) := ⟨by exact (far5 NB383_399.out BK383.out)⟩
                 have n4_ : Aside0 ((((((w102.setCell ⟨gb399, 0, none⟩ (.string t393)).setCell ⟨gb399, 1, none⟩ (.int .i64 t394)).setCell ⟨gb399, 2, none⟩ (.int .i64 t395)).setCell ⟨gb399, 3, none⟩ (.int .i64 t396)).setCell ⟨gb399, 4, none⟩ (.int .i64 t397)).heap[gb392]? = some (.cells #[.string t386, .int .i64 t387, .int .i64 t388, .int .i64 t389, .int .i64 t390] 40 (0, 0))) := ⟨by exact (far5 NB392_399.out BK392.out)⟩
                 have n5_ : Aside0 ((((((w102.setCell ⟨gb399, 0, none⟩ (.string t393)).setCell ⟨gb399, 1, none⟩ (.int .i64 t394)).setCell ⟨gb399, 2, none⟩ (.int .i64 t395)).setCell ⟨gb399, 3, none⟩ (.int .i64 t396)).setCell ⟨gb399, 4, none⟩ (.int .i64 t397)).heap[gb399]? = some (.cells #[.string t393, .int .i64 t394, .int .i64 t395, .int .i64 t396, .int .i64 t397] 40 (0, 0))) := ⟨by exact (put5 BK399.out)⟩
                 have n6_ : Aside0 (Below w.heap.size w (((((w102.setCell ⟨gb399, 0, none⟩ (.string t393)).setCell ⟨gb399, 1, none⟩ (.int .i64 t394)).setCell ⟨gb399, 2, none⟩ (.int .i64 t395)).setCell ⟨gb399, 3, none⟩ (.int .i64 t396)).setCell ⟨gb399, 4, none⟩ (.int .i64 t397))) := ⟨by repeat first | refine below_set ?_ GE356.out | refine below_set ?_ GE363.out | refine below_set ?_ GE376.out | refine below_set ?_ GE383.out | refine below_set ?_ GE392.out | refine below_set ?_ GE399.out | exact HB.out | apply below_alloc | apply pw_below_drewN | apply below_drew1⟩
                 (try clear BK356)
                 (try clear BK363)
                 (try clear BK376)
                 (try clear BK383)
                 (try clear BK392)
                 (try clear BK399)
                 (try clear HB)
                 generalize (((((w102.setCell ⟨gb399, 0, none⟩ (.string t393)).setCell ⟨gb399, 1, none⟩ (.int .i64 t394)).setCell ⟨gb399, 2, none⟩ (.int .i64 t395)).setCell ⟨gb399, 3, none⟩ (.int .i64 t396)).setCell ⟨gb399, 4, none⟩ (.int .i64 t397)) = w109 at n0_ n1_ n2_ n3_ n4_ n5_ n6_ ⊢
                 have BK356 := n0_
                 have BK363 := n1_
                 have BK376 := n2_
                 have BK383 := n3_
                 have BK392 := n4_
                 have BK399 := n5_
                 have HB := n6_
                 clear n0_ n1_ n2_ n3_ n4_ n5_ n6_
                 replace BK356 := Aside0.mk (blk_drew BK356.out); replace BK363 := Aside0.mk (blk_drew BK363.out); replace BK376 := Aside0.mk (blk_drew BK376.out); replace BK383 := Aside0.mk (blk_drew BK383.out); replace BK392 := Aside0.mk (blk_drew BK392.out); replace BK399 := Aside0.mk (blk_drew BK399.out); replace HB := Aside0.mk (below_drew1 HB.out)
                 refine start_ (n := 49) (S := fun w' => w'.cell? ⟨gb392, 0, none⟩ = some (.string t386) ∧ w'.cell? ⟨gb392, 1, none⟩ = some (.int .i64 t387) ∧ w'.cell? ⟨gb392, 2, none⟩ = some (.int .i64 t388) ∧ w'.cell? ⟨gb392, 3, none⟩ = some (.int .i64 t389) ∧ w'.cell? ⟨gb392, 4, none⟩ = some (.int .i64 t390) ∧ w'.cell? ⟨gb363, 0, none⟩ = some (.string t357) ∧ w'.cell? ⟨gb363, 1, none⟩ = some (.int .i64 t358) ∧ w'.cell? ⟨gb363, 2, none⟩ = some (.int .i64 t359) ∧ w'.cell? ⟨gb363, 3, none⟩ = some (.int .i64 t360) ∧ w'.cell? ⟨gb363, 4, none⟩ = some (.int .i64 t361) ∧ w'.cell? ⟨gb383, 0, none⟩ = some (.string t377) ∧ w'.cell? ⟨gb383, 1, none⟩ = some (.int .i64 t378) ∧ w'.cell? ⟨gb383, 2, none⟩ = some (.int .i64 t379) ∧ w'.cell? ⟨gb383, 3, none⟩ = some (.int .i64 t380) ∧ w'.cell? ⟨gb383, 4, none⟩ = some (.int .i64 t381)) (ds := []) m8_0_ (by kernel_rfl) rfl rfl ⟨(blk_cell BK392.out 0).trans rfl, (blk_cell BK392.out 1).trans rfl, (blk_cell BK392.out 2).trans rfl, (blk_cell BK392.out 3).trans rfl, (blk_cell BK392.out 4).trans rfl, (blk_cell BK363.out 0).trans rfl, (blk_cell BK363.out 1).trans rfl, (blk_cell BK363.out 2).trans rfl, (blk_cell BK363.out 3).trans rfl, (blk_cell BK363.out 4).trans rfl, (blk_cell BK383.out 0).trans rfl, (blk_cell BK383.out 1).trans rfl, (blk_cell BK383.out 2).trans rfl, (blk_cell BK383.out 3).trans rfl, (blk_cell BK383.out 4).trans rfl⟩ (fun hHeld => ?_); refine with_tabW backseatlaw04_CellMarks.tab14 backseatlaw04_CellMarks.bits14 (fun HT_ HW_ => ?_)
                 generalize w109.drew = w110 at BK356 BK363 BK376 BK383 BK392 BK399 HB hHeld ⊢
                 refine take_ (i := 0) (N := some 79) (v := ?_) (a' := ?_) m8_1_ rfl rfl (take_ofW HT_.out HW_.out (by kernel_rfl)) (fun _ _ _ h => h) (Or.inl ⟨by rfl, ?_⟩) hHeld ?_ ?_; rotate_left; (·rintro w' ⟨s0, s1, s2, s3, s4, s5, s6, s7, s8, s9, s10, s11, s12, s13, s14⟩; go_simp; with_reducible rfl); rotate_left; (·simp only [Act.put, s1, s2, s3, i64_w, i32_w]; rfl)
                 refine one_ (i := 1) (N := some 80) m8_2_ rfl rfl (one_of HT_.out (by kernel_rfl)) (by decide) (fun K hK => ?_)
                 refine goes_ Tryd.func25 (by kernel_rfl) rfl #[.agg #[.string t386, .int .i64 t387, .int .i64 t388, .int .i64 t389, .int .i64 t390]] (by rfl) rfl rfl (by (try simp only [List.map_toArray, List.map_cons, List.map_nil]); first | done | rfl | (simp only [List.length_drop, List.length_take]; rfl)) ?_
                 with_reducible refine (cell_Right.calls kj10 t386 t387 t388 t389 t390 true _ A57.out).mono ?_
                 rintro e w111 ⟨rfl, hb⟩
                 refine ⟨_, rfl, ?_⟩
                 replace BK356 := Aside0.mk (bb hb BK356.out); replace BK363 := Aside0.mk (bb hb BK363.out); replace BK376 := Aside0.mk (bb hb BK376.out); replace BK383 := Aside0.mk (bb hb BK383.out); replace BK392 := Aside0.mk (bb hb BK392.out); replace BK399 := Aside0.mk (bb hb BK399.out); replace HB := Aside0.mk (below_step (by repeat first | refine below_set ?_ GE356.out | refine below_set ?_ GE363.out | refine below_set ?_ GE376.out | refine below_set ?_ GE383.out | refine below_set ?_ GE392.out | refine below_set ?_ GE399.out | exact HB.out | apply below_alloc | apply pw_below_drewN | apply below_drew1) hb)
                 (try clear hb)
                 (try clear hb2)
                 (try clear hk)
                 (try clear hi)
                 refine hK.out _ _ ⟨(blk_cell BK392.out 0).trans rfl, (blk_cell BK392.out 1).trans rfl, (blk_cell BK392.out 2).trans rfl, (blk_cell BK392.out 3).trans rfl, (blk_cell BK392.out 4).trans rfl, (blk_cell BK363.out 0).trans rfl, (blk_cell BK363.out 1).trans rfl, (blk_cell BK363.out 2).trans rfl, (blk_cell BK363.out 3).trans rfl, (blk_cell BK363.out 4).trans rfl, (blk_cell BK383.out 0).trans rfl, (blk_cell BK383.out 1).trans rfl, (blk_cell BK383.out 2).trans rfl, (blk_cell BK383.out 3).trans rfl, (blk_cell BK383.out 4).trans rfl⟩ (fun hHeld => ?_)
                 clear hK K
                 refine norm_ (a' := ?_) ?_ ?_
                 rotate_left
                 ·show Act.put _ (some 80) _ = _
                  simp only [Act.put, s1, s2, s3, i64_w, i32_w]
                  rfl
                 refine pu HT_.out (i := 2) (N := some 81) (v := ?_) (a' := ?_) m8_3_ rfl rfl (by kernel_rfl) (fun _ _ _ h => h) (by rfl) ?_ ?_ ?_; rotate_left; (·intro w'; go_simp; with_reducible rfl); rotate_left; (·simp only [Act.put, s1, s2, s3, i64_w, i32_w]; rfl)
                 refine pu HT_.out (i := 3) (N := some 82) (v := ?_) (a' := ?_) m8_4_ rfl rfl (by kernel_rfl) (fun _ _ _ h => h) (by rfl) ?_ ?_ ?_; rotate_left; (·intro w'; go_simp; with_reducible rfl); rotate_left; (·simp only [Act.put, s1, s2, s3, i64_w, i32_w]; rfl)
                 refine pu HT_.out (i := 5) (N := some 84) (v := ?_) (a' := ?_) m8_5_ rfl rfl (by kernel_rfl) (fun _ _ _ h => h) (by rfl) ?_ ?_ ?_; rotate_left; (·intro w'; go_simp; with_reducible rfl); rotate_left; (·simp only [Act.put, s1, s2, s3, i64_w, i32_w]; rfl)
                 refine take_ (i := 4) (N := some 83) (v := ?_) (a' := ?_) m8_6_ rfl rfl (take_ofW HT_.out HW_.out (by kernel_rfl)) (fun _ _ _ h => h) (Or.inl ⟨by rfl, ?_⟩) hHeld ?_ ?_; rotate_left; (·rintro w' ⟨s0, s1, s2, s3, s4, s5, s6, s7, s8, s9, s10, s11, s12, s13, s14⟩; go_simp; with_reducible rfl); rotate_left; (·simp only [Act.put, s1, s2, s3, i64_w, i32_w]; rfl)
                 refine take_ (i := 6) (N := some 85) (v := ?_) (a' := ?_) m8_7_ rfl rfl (take_ofW HT_.out HW_.out (by kernel_rfl)) (fun _ _ _ h => h) (Or.inl ⟨by rfl, ?_⟩) hHeld ?_ ?_; rotate_left; (·rintro w' ⟨s0, s1, s2, s3, s4, s5, s6, s7, s8, s9, s10, s11, s12, s13, s14⟩; go_simp; with_reducible rfl); rotate_left; (·simp only [Act.put, s1, s2, s3, i64_w, i32_w]; rfl)
                 refine pu HT_.out (i := 7) (N := some 86) (v := ?_) (a' := ?_) m8_8_ rfl rfl (by kernel_rfl) (fun _ _ _ h => h) (by rfl) ?_ ?_ ?_; rotate_left; (·intro w'; go_simp; with_reducible rfl); rotate_left; (·simp only [Act.put, s1, s2, s3, i64_w, i32_w]; rfl)
                 refine pu HT_.out (i := 8) (N := some 87) (v := ?_) (a' := ?_) m8_9_ rfl rfl (by kernel_rfl) (fun _ _ _ h => h) (by rfl) ?_ ?_ ?_; rotate_left; (·intro w'; go_simp; with_reducible rfl); rotate_left; (·simp only [Act.put, s1, s2, s3, i64_w, i32_w]; rfl)
                 refine pu HT_.out (i := 9) (N := some 88) (v := ?_) (a' := ?_) m8_10_ rfl rfl (by kernel_rfl) (fun _ _ _ h => h) (by rfl) ?_ ?_ ?_; rotate_left; (·intro w'; go_simp; with_reducible rfl); rotate_left; (·simp only [Act.put, s1, s2, s3, i64_w, i32_w]; rfl)
                 refine pu HT_.out (i := 10) (N := some 89) (v := ?_) (a' := ?_) m8_11_ rfl rfl (by kernel_rfl) (fun _ _ _ h => h) (by rfl) ?_ ?_ ?_; rotate_left; (·intro w'; go_simp; with_reducible rfl); rotate_left; (·simp only [Act.put, s1, s2, s3, i64_w, i32_w]; rfl)
                 refine pu HT_.out (i := 13) (N := some 92) (v := ?_) (a' := ?_) m8_12_ rfl rfl (by kernel_rfl) (fun _ _ _ h => h) (by rfl) ?_ ?_ ?_; rotate_left; (·intro w'; go_simp; with_reducible rfl); rotate_left; (·simp only [Act.put, s1, s2, s3, i64_w, i32_w]; rfl)
                 refine take_ (i := 11) (N := some 90) (v := ?_) (a' := ?_) m8_13_ rfl rfl (take_ofW HT_.out HW_.out (by kernel_rfl)) (fun _ _ _ h => h) (Or.inl ⟨by rfl, ?_⟩) hHeld ?_ ?_; rotate_left; (·rintro w' ⟨s0, s1, s2, s3, s4, s5, s6, s7, s8, s9, s10, s11, s12, s13, s14⟩; go_simp; with_reducible rfl); rotate_left; (·simp only [Act.put, s1, s2, s3, i64_w, i32_w]; rfl)
                 refine pu HT_.out (i := 12) (N := some 91) (v := ?_) (a' := ?_) m8_14_ rfl rfl (by kernel_rfl) (fun _ _ _ h => h) (by rfl) ?_ ?_ ?_; rotate_left; (·intro w'; go_simp; with_reducible rfl); rotate_left; (·simp only [Act.put, s1, s2, s3, i64_w, i32_w]; rfl)
                 refine take_ (i := 14) (N := some 93) (v := ?_) (a' := ?_) m8_15_ rfl rfl (take_ofW HT_.out HW_.out (by kernel_rfl)) (fun _ _ _ h => h) (Or.inl ⟨by rfl, ?_⟩) hHeld ?_ ?_; rotate_left; (·rintro w' ⟨s0, s1, s2, s3, s4, s5, s6, s7, s8, s9, s10, s11, s12, s13, s14⟩; go_simp; with_reducible rfl); rotate_left; (·simp only [Act.put, s1, s2, s3, i64_w, i32_w]; rfl)
                 refine pu HT_.out (i := 15) (N := some 94) (v := ?_) (a' := ?_) m8_16_ rfl rfl (by kernel_rfl) (fun _ _ _ h => h) (by rfl) ?_ ?_ ?_; rotate_left; (·intro w'; go_simp; with_reducible rfl); rotate_left; (·simp only [Act.put, s1, s2, s3, i64_w, i32_w]; rfl)
                 refine pu HT_.out (i := 16) (N := some 95) (v := ?_) (a' := ?_) m8_17_ rfl rfl (by kernel_rfl) (fun _ _ _ h => h) (by rfl) ?_ ?_ ?_; rotate_left; (·intro w'; go_simp; with_reducible rfl); rotate_left; (·simp only [Act.put, s1, s2, s3, i64_w, i32_w]; rfl)
                 refine pu HT_.out (i := 17) (N := some 96) (v := ?_) (a' := ?_) m8_18_ rfl rfl (by kernel_rfl) (fun _ _ _ h => h) (by rfl) ?_ ?_ ?_; rotate_left; (·intro w'; go_simp; with_reducible rfl); rotate_left; (·simp only [Act.put, s1, s2, s3, i64_w, i32_w]; rfl)
                 refine pu HT_.out (i := 18) (N := some 97) (v := ?_) (a' := ?_) m8_19_ rfl rfl (by kernel_rfl) (fun _ _ _ h => h) (by rfl) ?_ ?_ ?_; rotate_left; (·intro w'; go_simp; with_reducible rfl); rotate_left; (·simp only [Act.put, s1, s2, s3, i64_w, i32_w]; rfl)
                 refine pu HT_.out (i := 19) (N := some 98) (v := ?_) (a' := ?_) m8_20_ rfl rfl (by kernel_rfl) (fun _ _ _ h => h) (by rfl) ?_ ?_ ?_; rotate_left; (·intro w'; go_simp; with_reducible rfl); rotate_left; (·simp only [Act.put, s1, s2, s3, i64_w, i32_w]; rfl)
                 refine pu HT_.out (i := 21) (N := some 100) (v := ?_) (a' := ?_) m8_21_ rfl rfl (by kernel_rfl) (fun _ _ _ h => h) (by rfl) ?_ ?_ ?_; rotate_left; (·intro w'; go_simp; with_reducible rfl); rotate_left; (·simp only [Act.put, s1, s2, s3, i64_w, i32_w]; rfl)
                 refine pu HT_.out (i := 25) (N := some 104) (v := ?_) (a' := ?_) m8_22_ rfl rfl (by kernel_rfl) (fun _ _ _ h => h) (by rfl) ?_ ?_ ?_; rotate_left; (·intro w'; go_simp; with_reducible rfl); rotate_left; (·simp only [Act.put, s1, s2, s3, i64_w, i32_w]; rfl)
                 refine take_ (i := 20) (N := some 99) (v := ?_) (a' := ?_) m8_23_ rfl rfl (take_ofW HT_.out HW_.out (by kernel_rfl)) (fun _ _ _ h => h) (Or.inl ⟨by rfl, ?_⟩) hHeld ?_ ?_; rotate_left; (·rintro w' ⟨s0, s1, s2, s3, s4, s5, s6, s7, s8, s9, s10, s11, s12, s13, s14⟩; go_simp; with_reducible rfl); rotate_left; (·simp only [Act.put, s1, s2, s3, i64_w, i32_w]; rfl)
                 refine take_ (i := 22) (N := some 101) (v := ?_) (a' := ?_) m8_24_ rfl rfl (take_ofW HT_.out HW_.out (by kernel_rfl)) (fun _ _ _ h => h) (Or.inl ⟨by rfl, ?_⟩) hHeld ?_ ?_; rotate_left; (·rintro w' ⟨s0, s1, s2, s3, s4, s5, s6, s7, s8, s9, s10, s11, s12, s13, s14⟩; go_simp; with_reducible rfl); rotate_left; (·simp only [Act.put, s1, s2, s3, i64_w, i32_w]; rfl)
                 refine pu HT_.out (i := 23) (N := some 102) (v := ?_) (a' := ?_) m8_25_ rfl rfl (by kernel_rfl) (fun _ _ _ h => h) (by rfl) ?_ ?_ ?_; rotate_left; (·intro w'; go_simp; with_reducible rfl); rotate_left; (·simp only [Act.put, s1, s2, s3, i64_w, i32_w]; rfl)
                 refine pu HT_.out (i := 24) (N := some 103) (v := ?_) (a' := ?_) m8_26_ rfl rfl (by kernel_rfl) (fun _ _ _ h => h) (by rfl) ?_ ?_ ?_; rotate_left; (·intro w'; go_simp; with_reducible rfl); rotate_left; (·simp only [Act.put, s1, s2, s3, i64_w, i32_w]; rfl)
                 refine take_ (i := 26) (N := some 105) (v := ?_) (a' := ?_) m8_27_ rfl rfl (take_ofW HT_.out HW_.out (by kernel_rfl)) (fun _ _ _ h => h) (Or.inl ⟨by rfl, ?_⟩) hHeld ?_ ?_; rotate_left; (·rintro w' ⟨s0, s1, s2, s3, s4, s5, s6, s7, s8, s9, s10, s11, s12, s13, s14⟩; go_simp; with_reducible rfl); rotate_left; (·simp only [Act.put, s1, s2, s3, i64_w, i32_w]; rfl)
                 refine pu HT_.out (i := 27) (N := some 106) (v := ?_) (a' := ?_) m8_28_ rfl rfl (by kernel_rfl) (fun _ _ _ h => h) (by rfl) ?_ ?_ ?_; rotate_left; (·intro w'; go_simp; with_reducible rfl); rotate_left; (·simp only [Act.put, s1, s2, s3, i64_w, i32_w]; rfl)
                 refine pu HT_.out (i := 28) (N := some 107) (v := ?_) (a' := ?_) m8_29_ rfl rfl (by kernel_rfl) (fun _ _ _ h => h) (by rfl) ?_ ?_ ?_; rotate_left; (·intro w'; go_simp; with_reducible rfl); rotate_left; (·simp only [Act.put, s1, s2, s3, i64_w, i32_w]; rfl)
                 refine pu HT_.out (i := 29) (N := some 108) (v := ?_) (a' := ?_) m8_30_ rfl rfl (by kernel_rfl) (fun _ _ _ h => h) (by rfl) ?_ ?_ ?_; rotate_left; (·intro w'; go_simp; with_reducible rfl); rotate_left; (·simp only [Act.put, s1, s2, s3, i64_w, i32_w]; rfl)
                 refine pu HT_.out (i := 30) (N := some 109) (v := ?_) (a' := ?_) m8_31_ rfl rfl (by kernel_rfl) (fun _ _ _ h => h) (by rfl) ?_ ?_ ?_; rotate_left; (·intro w'; go_simp; with_reducible rfl); rotate_left; (·simp only [Act.put, s1, s2, s3, i64_w, i32_w]; rfl)
                 refine pu HT_.out (i := 32) (N := some 111) (v := ?_) (a' := ?_) m8_32_ rfl rfl (by kernel_rfl) (fun _ _ _ h => h) (by rfl) ?_ ?_ ?_; rotate_left; (·intro w'; go_simp; with_reducible rfl); rotate_left; (·simp only [Act.put, s1, s2, s3, i64_w, i32_w]; rfl)
                 refine pu HT_.out (i := 36) (N := some 115) (v := ?_) (a' := ?_) m8_33_ rfl rfl (by kernel_rfl) (fun _ _ _ h => h) (by rfl) ?_ ?_ ?_; rotate_left; (·intro w'; go_simp; with_reducible rfl); rotate_left; (·simp only [Act.put, s1, s2, s3, i64_w, i32_w]; rfl)
                 refine take_ (i := 31) (N := some 110) (v := ?_) (a' := ?_) m8_34_ rfl rfl (take_ofW HT_.out HW_.out (by kernel_rfl)) (fun _ _ _ h => h) (Or.inl ⟨by rfl, ?_⟩) hHeld ?_ ?_; rotate_left; (·rintro w' ⟨s0, s1, s2, s3, s4, s5, s6, s7, s8, s9, s10, s11, s12, s13, s14⟩; go_simp; with_reducible rfl); rotate_left; (·simp only [Act.put, s1, s2, s3, i64_w, i32_w]; rfl)
                 refine take_ (i := 33) (N := some 112) (v := ?_) (a' := ?_) m8_35_ rfl rfl (take_ofW HT_.out HW_.out (by kernel_rfl)) (fun _ _ _ h => h) (Or.inl ⟨by rfl, ?_⟩) hHeld ?_ ?_; rotate_left; (·rintro w' ⟨s0, s1, s2, s3, s4, s5, s6, s7, s8, s9, s10, s11, s12, s13, s14⟩; go_simp; with_reducible rfl); rotate_left; (·simp only [Act.put, s1, s2, s3, i64_w, i32_w]; rfl)
                 refine pu HT_.out (i := 34) (N := some 113) (v := ?_) (a' := ?_) m8_36_ rfl rfl (by kernel_rfl) (fun _ _ _ h => h) (by rfl) ?_ ?_ ?_; rotate_left; (·intro w'; go_simp; with_reducible rfl); rotate_left; (·simp only [Act.put, s1, s2, s3, i64_w, i32_w]; rfl)
                 refine pu HT_.out (i := 35) (N := some 114) (v := ?_) (a' := ?_) m8_37_ rfl rfl (by kernel_rfl) (fun _ _ _ h => h) (by rfl) ?_ ?_ ?_; rotate_left; (·intro w'; go_simp; with_reducible rfl); rotate_left; (·simp only [Act.put, s1, s2, s3, i64_w, i32_w]; rfl)
                 refine take_ (i := 37) (N := some 116) (v := ?_) (a' := ?_) m8_38_ rfl rfl (take_ofW HT_.out HW_.out (by kernel_rfl)) (fun _ _ _ h => h) (Or.inl ⟨by rfl, ?_⟩) hHeld ?_ ?_; rotate_left; (·rintro w' ⟨s0, s1, s2, s3, s4, s5, s6, s7, s8, s9, s10, s11, s12, s13, s14⟩; go_simp; with_reducible rfl); rotate_left; (·simp only [Act.put, s1, s2, s3, i64_w, i32_w]; rfl)
                 refine pu HT_.out (i := 38) (N := some 117) (v := ?_) (a' := ?_) m8_39_ rfl rfl (by kernel_rfl) (fun _ _ _ h => h) (by rfl) ?_ ?_ ?_; rotate_left; (·intro w'; go_simp; with_reducible rfl); rotate_left; (·simp only [Act.put, s1, s2, s3, i64_w, i32_w]; rfl)
                 refine pu HT_.out (i := 39) (N := some 118) (v := ?_) (a' := ?_) m8_40_ rfl rfl (by kernel_rfl) (fun _ _ _ h => h) (by rfl) ?_ ?_ ?_; rotate_left; (·intro w'; go_simp; with_reducible rfl); rotate_left; (·simp only [Act.put, s1, s2, s3, i64_w, i32_w]; rfl)
                 refine pu HT_.out (i := 40) (N := some 119) (v := ?_) (a' := ?_) m8_41_ rfl rfl (by kernel_rfl) (fun _ _ _ h => h) (by rfl) ?_ ?_ ?_; rotate_left; (·intro w'; go_simp; with_reducible rfl); rotate_left; (·simp only [Act.put, s1, s2, s3, i64_w, i32_w]; rfl)
                 refine pu HT_.out (i := 41) (N := some 120) (v := ?_) (a' := ?_) m8_42_ rfl rfl (by kernel_rfl) (fun _ _ _ h => h) (by rfl) ?_ ?_ ?_; rotate_left; (·intro w'; go_simp; with_reducible rfl); rotate_left; (·simp only [Act.put, s1, s2, s3, i64_w, i32_w]; rfl)
                 refine pu HT_.out (i := 42) (N := some 121) (v := ?_) (a' := ?_) m8_43_ rfl rfl (by kernel_rfl) (fun _ _ _ h => h) (by rfl) ?_ ?_ ?_; rotate_left; (·intro w'; go_simp; with_reducible rfl); rotate_left; (·simp only [Act.put, s1, s2, s3, i64_w, i32_w]; rfl)
                 refine pu HT_.out (i := 43) (N := some 122) (v := ?_) (a' := ?_) m8_44_ rfl rfl (by kernel_rfl) (fun _ _ _ h => h) (by rfl) ?_ ?_ ?_; rotate_left; (·intro w'; go_simp; with_reducible rfl); rotate_left; (·simp only [Act.put, s1, s2, s3, i64_w, i32_w]; rfl)
                 refine pu HT_.out (i := 44) (N := some 123) (v := ?_) (a' := ?_) m8_45_ rfl rfl (by kernel_rfl) (fun _ _ _ h => h) (by rfl) ?_ ?_ ?_; rotate_left; (·intro w'; go_simp; with_reducible rfl); rotate_left; (·simp only [Act.put, s1, s2, s3, i64_w, i32_w]; rfl)
                 refine pu HT_.out (i := 45) (N := some 124) (v := ?_) (a' := ?_) m8_46_ rfl rfl (by kernel_rfl) (fun _ _ _ h => h) (by rfl) ?_ ?_ ?_; rotate_left; (·intro w'; go_simp; with_reducible rfl); rotate_left; (·simp only [Act.put, s1, s2, s3, i64_w, i32_w]; rfl)
                 refine pu HT_.out (i := 46) (N := some 125) (v := ?_) (a' := ?_) m8_47_ rfl rfl (by kernel_rfl) (fun _ _ _ h => h) (by rfl) ?_ ?_ ?_; rotate_left; (·intro w'; go_simp; with_reducible rfl); rotate_left; (·simp only [Act.put, s1, s2, s3, i64_w, i32_w]; rfl)
                 refine pu HT_.out (i := 47) (N := some 126) (v := ?_) (a' := ?_) m8_48_ rfl rfl (by kernel_rfl) (fun _ _ _ h => h) (by rfl) ?_ ?_ ?_; rotate_left; (·intro w'; go_simp; with_reducible rfl); rotate_left; (·simp only [Act.put, s1, s2, s3, i64_w, i32_w]; rfl)
                 refine pu HT_.out (i := 48) (N := some 10) (v := ?_) (a' := ?_) m8_49_ rfl rfl (by kernel_rfl) (fun _ _ _ h => h) (by rfl) ?_ ?_ ?_; rotate_left; (·intro w'; go_simp; with_reducible rfl); rotate_left; (·simp only [Act.put, s1, s2, s3, i64_w, i32_w]; rfl)
                 refine done_ (done_of HT_.out (by kernel_rfl)) ?_
                 try go_wp2
                 go_ret
                 exact ⟨by first | rfl | (simp [errW_none, errW_some] <;> rfl) | (simp [*, errW_none, errW_some] <;> rfl), by repeat first | refine below_set ?_ GE356.out | refine below_set ?_ GE363.out | refine below_set ?_ GE376.out | refine below_set ?_ GE383.out | refine below_set ?_ GE392.out | refine below_set ?_ GE399.out | exact HB.out | apply below_alloc | apply pw_below_drewN | apply below_drew1⟩
               ·rw [if_neg c66] at H
                have c66b0 : ((t377.extract 0 ((t357.size : Int) : Int).toNat).toList == t357.toList) = false := beq_eq_false_iff_ne.mpr c66
                (try (have c66b0x := c66b0; simp at c66b0x))
                (try (have c66b0y := c66b0; simp only [Int.toNat_natCast] at c66b0y))
                have c66b1 : ((t377.extract 0 ((t357.size : Int) : Int).toNat).toList != t357.toList) = true := bne_iff_ne.mpr c66
                (try (have c66b1x := c66b1; simp at c66b1x))
                obtain rfl := Option.some.inj H
                have hnb112 := NB383_356.out
                have hnc112 := NB356_383.out
                have hnb113 := NB383_363.out
                have hnc113 := NB363_383.out
                have hnb114 := NB383_376.out
                have hnc114 := NB376_383.out
                have hcz115_0 : wc.cell? ⟨gb383, 0, none⟩ = some (.string t377) := (blk_cell BK383.out 0).trans rfl
                have hcz115_1 : wc.cell? ⟨gb383, 1, none⟩ = some (.int .i64 t378) := (blk_cell BK383.out 1).trans rfl
                have hcz115_2 : wc.cell? ⟨gb383, 2, none⟩ = some (.int .i64 t379) := (blk_cell BK383.out 2).trans rfl
                have hcz115_3 : wc.cell? ⟨gb383, 3, none⟩ = some (.int .i64 t380) := (blk_cell BK383.out 3).trans rfl
                have hcz115_4 : wc.cell? ⟨gb383, 4, none⟩ = some (.int .i64 t381) := (blk_cell BK383.out 4).trans rfl
                have hfz115_0 := blk_frozen BK383.out 0
                have hfz115_1 := blk_frozen BK383.out 1
                have hfz115_2 := blk_frozen BK383.out 2
                have hfz115_3 := blk_frozen BK383.out 3
                have hfz115_4 := blk_frozen BK383.out 4
                try go_wp2_with (first | ((with_reducible refine gate_callee (f := 24) rfl ?_); refine goesL_ (some 66) rfl rfl Tryd.func24 (by kernel_rfl) rfl #[.agg #[.string t377, .int .i64 t378, .int .i64 t379, .int .i64 t380, .int .i64 t381], .int .i32 a2] rfl (by (try simp only [List.map_toArray, List.map_cons, List.map_nil]); first | done | rfl | (simp only [List.length_drop, List.length_take]; rfl)) ?_; (with_reducible refine (cell_Mark.calls kj10 t377 t378 t379 t380 t381 a2 t386 t387 t388 t389 t390 t391 _ A54.out).mono ?_); rintro e w116 ⟨rfl, hb⟩; refine ⟨_, rfl, ?_⟩; replace BK356 := Aside0.mk (bb hb BK356.out); replace BK363 := Aside0.mk (bb hb BK363.out); replace BK376 := Aside0.mk (bb hb BK376.out); replace BK383 := Aside0.mk (bb hb BK383.out); replace HB := Aside0.mk (below_step (by repeat first | refine below_set ?_ GE356.out | refine below_set ?_ GE363.out | refine below_set ?_ GE376.out | refine below_set ?_ GE383.out | exact HB.out | apply below_alloc | apply pw_below_drewN | apply below_drew1) hb); (try clear hb); (try clear hb2); (try clear hk); (try clear hi)) | ((with_reducible refine gate_dst (N := 17) rfl ?_); (try (refine gate_guard (by rfl) ?_; dsimp only)); refine box_event ?hg (N := 17) ?hd (cs := #[.string (⟨#[]⟩ : ByteArray), .int .i64 0, .int .i64 0, .int .i64 0, .int .i64 0]) (t := 40) ?hr ?_; (case hd => rfl); (case hg => rfl); (case hr => first | (go_simp; done) | (go_simp; rfl)); intro gb392 hg w117 hbox hb; have BK392 := Aside0.mk (hbox); have GW392 := Aside0.mk ((by rw [hg]; exact (below_size (by repeat first | refine below_set ?_ GE356.out | refine below_set ?_ GE363.out | refine below_set ?_ GE376.out | refine below_set ?_ GE383.out | exact HB.out | apply below_alloc | apply pw_below_drewN | apply below_drew1)) : w.heap.size ≤ gb392)); have GE392 := GW392; have NB356_392 := Aside0.mk ((by rw [hg]; exact lt1 BK356.out : gb356 ≠ gb392)); have NB392_356 := Aside0.mk ((by rw [hg]; exact gt1 BK356.out : gb392 ≠ gb356)); have NB363_392 := Aside0.mk ((by rw [hg]; exact lt1 BK363.out : gb363 ≠ gb392)); have NB392_363 := Aside0.mk ((by rw [hg]; exact gt1 BK363.out : gb392 ≠ gb363)); have NB376_392 := Aside0.mk ((by rw [hg]; exact lt1 BK376.out : gb376 ≠ gb392)); have NB392_376 := Aside0.mk ((by rw [hg]; exact gt1 BK376.out : gb392 ≠ gb376)); have NB383_392 := Aside0.mk ((by rw [hg]; exact lt1 BK383.out : gb383 ≠ gb392)); have NB392_383 := Aside0.mk ((by rw [hg]; exact gt1 BK383.out : gb392 ≠ gb383)); replace BK356 := Aside0.mk (bb hb BK356.out); replace BK363 := Aside0.mk (bb hb BK363.out); replace BK376 := Aside0.mk (bb hb BK376.out); replace BK383 := Aside0.mk (bb hb BK383.out); replace HB := Aside0.mk (below_step (by repeat first | refine below_set ?_ GE356.out | refine below_set ?_ GE363.out | refine below_set ?_ GE376.out | refine below_set ?_ GE383.out | exact HB.out | apply below_alloc | apply pw_below_drewN | apply below_drew1) hb); clear hb hbox hg; have hnb118 := NB392_356.out; have hnc118 := NB356_392.out; have hnb119 := NB392_363.out; have hnc119 := NB363_392.out; have hnb120 := NB392_376.out; have hnc120 := NB376_392.out; have hnb121 := NB392_383.out; have hnc121 := NB383_392.out; obtain ⟨hcz122_0, hcz122_1, hcz122_2, hcz122_3, hcz122_4, hfz122_0, hfz122_1, hfz122_2, hfz122_3, hfz122_4⟩ := cz5 BK392.out) | ((with_reducible refine gate_callee (f := 24) rfl ?_); refine goesL_ (some 76) rfl rfl Tryd.func24 (by kernel_rfl) rfl #[.agg #[.string t386, .int .i64 t387, .int .i64 t388, .int .i64 t389, .int .i64 t390], .int .i32 a3] rfl (by (try simp only [List.map_toArray, List.map_cons, List.map_nil]); first | done | rfl | (simp only [List.length_drop, List.length_take]; rfl)) ?_; (with_reducible refine (cell_Mark.calls kj10 t386 t387 t388 t389 t390 a3 t393 t394 t395 t396 t397 t398 _ A56.out).mono ?_); rintro e w123 ⟨rfl, hb⟩; refine ⟨_, rfl, ?_⟩; replace BK356 := Aside0.mk (bb hb (far5 NB356_392.out BK356.out)); replace BK363 := Aside0.mk (bb hb (far5 NB363_392.out BK363.out)); replace BK376 := Aside0.mk (bb hb (far5 NB376_392.out BK376.out)); replace BK383 := Aside0.mk (bb hb (far5 NB383_392.out BK383.out)); replace BK392 := Aside0.mk (bb hb (put5 BK392.out)); replace HB := Aside0.mk (below_step (by repeat first | refine below_set ?_ GE356.out | refine below_set ?_ GE363.out | refine below_set ?_ GE376.out | refine below_set ?_ GE383.out | refine below_set ?_ GE392.out | exact HB.out | apply below_alloc | apply pw_below_drewN | apply below_drew1) hb); (try clear hb); (try clear hb2); (try clear hk); (try clear hi)) | ((with_reducible refine gate_dst (N := 19) rfl ?_); (try (refine gate_guard (by rfl) ?_; dsimp only)); refine box_event ?hg (N := 19) ?hd (cs := #[.string (⟨#[]⟩ : ByteArray), .int .i64 0, .int .i64 0, .int .i64 0, .int .i64 0]) (t := 40) ?hr ?_; (case hd => rfl); (case hg => rfl); (case hr => first | (go_simp; done) | (go_simp; rfl)); intro gb399 hg w124 hbox hb; have BK399 := Aside0.mk (hbox); have GW399 := Aside0.mk ((by rw [hg]; exact (below_size (by repeat first | refine below_set ?_ GE356.out | refine below_set ?_ GE363.out | refine below_set ?_ GE376.out | refine below_set ?_ GE383.out | refine below_set ?_ GE392.out | exact HB.out | apply below_alloc | apply pw_below_drewN | apply below_drew1)) : w.heap.size ≤ gb399)); have GE399 := GW399; have NB356_399 := Aside0.mk ((by rw [hg]; exact lt1 BK356.out : gb356 ≠ gb399)); have NB399_356 := Aside0.mk ((by rw [hg]; exact gt1 BK356.out : gb399 ≠ gb356)); have NB363_399 := Aside0.mk ((by rw [hg]; exact lt1 BK363.out : gb363 ≠ gb399)); have NB399_363 := Aside0.mk ((by rw [hg]; exact gt1 BK363.out : gb399 ≠ gb363)); have NB376_399 := Aside0.mk ((by rw [hg]; exact lt1 BK376.out : gb376 ≠ gb399)); have NB399_376 := Aside0.mk ((by rw [hg]; exact gt1 BK376.out : gb399 ≠ gb376)); have NB383_399 := Aside0.mk ((by rw [hg]; exact lt1 BK383.out : gb383 ≠ gb399)); have NB399_383 := Aside0.mk ((by rw [hg]; exact gt1 BK383.out : gb399 ≠ gb383)); have NB392_399 := Aside0.mk ((by rw [hg]; exact lt1 BK392.out : gb392 ≠ gb399)); have NB399_392 := Aside0.mk ((by rw [hg]; exact gt1 BK392.out : gb399 ≠ gb392)); replace BK356 := Aside0.mk (bb hb BK356.out); replace BK363 := Aside0.mk (bb hb BK363.out); replace BK376 := Aside0.mk (bb hb BK376.out); replace BK383 := Aside0.mk (bb hb BK383.out); replace BK392 := Aside0.mk (bb hb BK392.out); replace HB := Aside0.mk (below_step (by repeat first | refine below_set ?_ GE356.out | refine below_set ?_ GE363.out | refine below_set ?_ GE376.out | refine below_set ?_ GE383.out | refine below_set ?_ GE392.out | exact HB.out | apply below_alloc | apply pw_below_drewN | apply below_drew1) hb); clear hb hbox hg; have hnb125 := NB399_356.out; have hnc125 := NB356_399.out; have hnb126 := NB399_363.out; have hnc126 := NB363_399.out; have hnb127 := NB399_376.out; have hnc127 := NB376_399.out; have hnb128 := NB399_383.out; have hnc128 := NB383_399.out; have hnb129 := NB399_392.out; have hnc129 := NB392_399.out; obtain ⟨hcz130_0, hcz130_1, hcz130_2, hcz130_3, hcz130_4, hfz130_0, hfz130_1, hfz130_2, hfz130_3, hfz130_4⟩ := cz5 BK399.out))
                have n0_ : Aside0 ((((((w124.setCell ⟨gb399, 0, none⟩ (.string t393)).setCell ⟨gb399, 1, none⟩ (.int .i64 t394)).setCell ⟨gb399, 2, none⟩ (.int .i64 t395)).setCell ⟨gb399, 3, none⟩ (.int .i64 t396)).setCell ⟨gb399, 4, none⟩ (.int .i64 t397)).heap[gb356]? = some (.cells #[.int .i64 a4_0, .int .i64 a4_1, .int .i64 a4_2] 38 (0, 0))) := ⟨by exact (far5 NB356_399.out BK356.out)⟩
                have n1_ : Aside0 ((((((w124.setCell ⟨gb399, 0, none⟩ (.string t393)).setCell ⟨gb399, 1, none⟩ (.int .i64 t394)).setCell ⟨gb399, 2, none⟩ (.int .i64 t395)).setCell ⟨gb399, 3, none⟩ (.int .i64 t396)).setCell ⟨gb399, 4, none⟩ (.int .i64 t397)).heap[gb363]? = some (.cells #[.string t357, .int .i64 t358, .int .i64 t359, .int .i64 t360, .int .i64 t361] 40 (0, 0))) := ⟨by exact (far5 NB363_399.out BK363.out)⟩
                have n2_ : Aside0 ((((((w124.setCell ⟨gb399, 0, none⟩ (.string t393)).setCell ⟨gb399, 1, none⟩ (.int .i64 t394)).setCell ⟨gb399, 2, none⟩ (.int .i64 t395)).setCell ⟨gb399, 3, none⟩ (.int .i64 t396)).setCell ⟨gb399, 4, none⟩ (.int .i64 t397)).heap[gb376]? = some (.cells #[.string t370, .int .i64 t371, .int .i64 t372, .int .i64 t373, .int .i64 t374] 40 (0, 0))) := ⟨by exact (far5 NB376_399.out BK376.out)⟩
                have n3_ : Aside0 ((((((w124.setCell ⟨gb399, 0, none⟩ (.string t393)).setCell ⟨gb399, 1, none⟩ (.int .i64 t394)).setCell ⟨gb399, 2, none⟩ (.int .i64 t395)).setCell ⟨gb399, 3, none⟩ (.int .i64 t396)).setCell ⟨gb399, 4, none⟩ (.int .i64 t397)).heap[gb383]? = some (.cells #[.string t377, .int .i64 t378, .int .i64 t379, .int .i64 t380, .int .i64 t381] 40 (0, 0))) := ⟨by exact (far5 NB383_399.out BK383.out)⟩
                have n4_ : Aside0 ((((((w124.setCell ⟨gb399, 0, none⟩ (.string t393)).setCell ⟨gb399, 1, none⟩ (.int .i64 t394)).setCell ⟨gb399, 2, none⟩ (.int .i64 t395)).setCell ⟨gb399, 3, none⟩ (.int .i64 t396)).setCell ⟨gb399, 4, none⟩ (.int .i64 t397)).heap[gb392]? = some (.cells #[.string t386, .int .i64 t387, .int .i64 t388, .int .i64 t389, .int .i64 t390] 40 (0, 0))) := ⟨by exact (far5 NB392_399.out BK392.out)⟩
                have n5_ : Aside0 ((((((w124.setCell ⟨gb399, 0, none⟩ (.string t393)).setCell ⟨gb399, 1, none⟩ (.int .i64 t394)).setCell ⟨gb399, 2, none⟩ (.int .i64 t395)).setCell ⟨gb399, 3, none⟩ (.int .i64 t396)).setCell ⟨gb399, 4, none⟩ (.int .i64 t397)).heap[gb399]? = some (.cells #[.string t393, .int .i64 t394, .int .i64 t395, .int .i64 t396, .int .i64 t397] 40 (0, 0))) := ⟨by exact (put5 BK399.out)⟩
                have n6_ : Aside0 (Below w.heap.size w (((((w124.setCell ⟨gb399, 0, none⟩ (.string t393)).setCell ⟨gb399, 1, none⟩ (.int .i64 t394)).setCell ⟨gb399, 2, none⟩ (.int .i64 t395)).setCell ⟨gb399, 3, none⟩ (.int .i64 t396)).setCell ⟨gb399, 4, none⟩ (.int .i64 t397))) := ⟨by repeat first | refine below_set ?_ GE356.out | refine below_set ?_ GE363.out | refine below_set ?_ GE376.out | refine below_set ?_ GE383.out | refine below_set ?_ GE392.out | refine below_set ?_ GE399.out | exact HB.out | apply below_alloc | apply pw_below_drewN | apply below_drew1⟩
                (try clear BK356)
                (try clear BK363)
                (try clear BK376)
                (try clear BK383)
                (try clear BK392)
                (try clear BK399)
                (try clear HB)
                generalize (((((w124.setCell ⟨gb399, 0, none⟩ (.string t393)).setCell ⟨gb399, 1, none⟩ (.int .i64 t394)).setCell ⟨gb399, 2, none⟩ (.int .i64 t395)).setCell ⟨gb399, 3, none⟩ (.int .i64 t396)).setCell ⟨gb399, 4, none⟩ (.int .i64 t397)) = w131 at n0_ n1_ n2_ n3_ n4_ n5_ n6_ ⊢
                have BK356 := n0_
                have BK363 := n1_
                have BK376 := n2_
                have BK383 := n3_
                have BK392 := n4_
                have BK399 := n5_
                have HB := n6_
                clear n0_ n1_ n2_ n3_ n4_ n5_ n6_
                replace BK356 := Aside0.mk (blk_drew BK356.out); replace BK363 := Aside0.mk (blk_drew BK363.out); replace BK376 := Aside0.mk (blk_drew BK376.out); replace BK383 := Aside0.mk (blk_drew BK383.out); replace BK392 := Aside0.mk (blk_drew BK392.out); replace BK399 := Aside0.mk (blk_drew BK399.out); replace HB := Aside0.mk (below_drew1 HB.out)
                refine start_ (n := 49) (S := fun w' => w'.cell? ⟨gb392, 0, none⟩ = some (.string t386) ∧ w'.cell? ⟨gb392, 1, none⟩ = some (.int .i64 t387) ∧ w'.cell? ⟨gb392, 2, none⟩ = some (.int .i64 t388) ∧ w'.cell? ⟨gb392, 3, none⟩ = some (.int .i64 t389) ∧ w'.cell? ⟨gb392, 4, none⟩ = some (.int .i64 t390) ∧ w'.cell? ⟨gb363, 0, none⟩ = some (.string t357) ∧ w'.cell? ⟨gb363, 1, none⟩ = some (.int .i64 t358) ∧ w'.cell? ⟨gb363, 2, none⟩ = some (.int .i64 t359) ∧ w'.cell? ⟨gb363, 3, none⟩ = some (.int .i64 t360) ∧ w'.cell? ⟨gb363, 4, none⟩ = some (.int .i64 t361) ∧ w'.cell? ⟨gb383, 0, none⟩ = some (.string t377) ∧ w'.cell? ⟨gb383, 1, none⟩ = some (.int .i64 t378) ∧ w'.cell? ⟨gb383, 2, none⟩ = some (.int .i64 t379) ∧ w'.cell? ⟨gb383, 3, none⟩ = some (.int .i64 t380) ∧ w'.cell? ⟨gb383, 4, none⟩ = some (.int .i64 t381)) (ds := []) m8_0_ (by kernel_rfl) rfl rfl ⟨(blk_cell BK392.out 0).trans rfl, (blk_cell BK392.out 1).trans rfl, (blk_cell BK392.out 2).trans rfl, (blk_cell BK392.out 3).trans rfl, (blk_cell BK392.out 4).trans rfl, (blk_cell BK363.out 0).trans rfl, (blk_cell BK363.out 1).trans rfl, (blk_cell BK363.out 2).trans rfl, (blk_cell BK363.out 3).trans rfl, (blk_cell BK363.out 4).trans rfl, (blk_cell BK383.out 0).trans rfl, (blk_cell BK383.out 1).trans rfl, (blk_cell BK383.out 2).trans rfl, (blk_cell BK383.out 3).trans rfl, (blk_cell BK383.out 4).trans rfl⟩ (fun hHeld => ?_); refine with_tabW backseatlaw04_CellMarks.tab14 backseatlaw04_CellMarks.bits14 (fun HT_ HW_ => ?_)
                generalize w131.drew = w132 at BK356 BK363 BK376 BK383 BK392 BK399 HB hHeld ⊢
                refine take_ (i := 0) (N := some 79) (v := ?_) (a' := ?_) m8_1_ rfl rfl (take_ofW HT_.out HW_.out (by kernel_rfl)) (fun _ _ _ h => h) (Or.inl ⟨by rfl, ?_⟩) hHeld ?_ ?_; rotate_left; (·rintro w' ⟨s0, s1, s2, s3, s4, s5, s6, s7, s8, s9, s10, s11, s12, s13, s14⟩; go_simp; with_reducible rfl); rotate_left; (·simp only [Act.put, s1, s2, s3, i64_w, i32_w]; rfl)
                refine one_ (i := 1) (N := some 80) m8_2_ rfl rfl (one_of HT_.out (by kernel_rfl)) (by decide) (fun K hK => ?_)
                refine goes_ Tryd.func25 (by kernel_rfl) rfl #[.agg #[.string t386, .int .i64 t387, .int .i64 t388, .int .i64 t389, .int .i64 t390]] (by rfl) rfl rfl (by (try simp only [List.map_toArray, List.map_cons, List.map_nil]); first | done | rfl | (simp only [List.length_drop, List.length_take]; rfl)) ?_
                with_reducible refine (cell_Right.calls kj10 t386 t387 t388 t389 t390 true _ A57.out).mono ?_
                rintro e w133 ⟨rfl, hb⟩
                refine ⟨_, rfl, ?_⟩
                replace BK356 := Aside0.mk (bb hb BK356.out); replace BK363 := Aside0.mk (bb hb BK363.out); replace BK376 := Aside0.mk (bb hb BK376.out); replace BK383 := Aside0.mk (bb hb BK383.out); replace BK392 := Aside0.mk (bb hb BK392.out); replace BK399 := Aside0.mk (bb hb BK399.out); replace HB := Aside0.mk (below_step (by repeat first | refine below_set ?_ GE356.out | refine below_set ?_ GE363.out | refine below_set ?_ GE376.out | refine below_set ?_ GE383.out | refine below_set ?_ GE392.out | refine below_set ?_ GE399.out | exact HB.out | apply below_alloc | apply pw_below_drewN | apply below_drew1) hb)
                (try clear hb)
                (try clear hb2)
                (try clear hk)
                (try clear hi)
                refine hK.out _ _ ⟨(blk_cell BK392.out 0).trans rfl, (blk_cell BK392.out 1).trans rfl, (blk_cell BK392.out 2).trans rfl, (blk_cell BK392.out 3).trans rfl, (blk_cell BK392.out 4).trans rfl, (blk_cell BK363.out 0).trans rfl, (blk_cell BK363.out 1).trans rfl, (blk_cell BK363.out 2).trans rfl, (blk_cell BK363.out 3).trans rfl, (blk_cell BK363.out 4).trans rfl, (blk_cell BK383.out 0).trans rfl, (blk_cell BK383.out 1).trans rfl, (blk_cell BK383.out 2).trans rfl, (blk_cell BK383.out 3).trans rfl, (blk_cell BK383.out 4).trans rfl⟩ (fun hHeld => ?_)
                clear hK K
                refine norm_ (a' := ?_) ?_ ?_
                rotate_left
                ·show Act.put _ (some 80) _ = _
                 simp only [Act.put, s1, s2, s3, i64_w, i32_w]
                 rfl
                refine pu HT_.out (i := 2) (N := some 81) (v := ?_) (a' := ?_) m8_3_ rfl rfl (by kernel_rfl) (fun _ _ _ h => h) (by rfl) ?_ ?_ ?_; rotate_left; (·intro w'; go_simp; with_reducible rfl); rotate_left; (·simp only [Act.put, s1, s2, s3, i64_w, i32_w]; rfl)
                refine pu HT_.out (i := 3) (N := some 82) (v := ?_) (a' := ?_) m8_4_ rfl rfl (by kernel_rfl) (fun _ _ _ h => h) (by rfl) ?_ ?_ ?_; rotate_left; (·intro w'; go_simp; with_reducible rfl); rotate_left; (·simp only [Act.put, s1, s2, s3, i64_w, i32_w]; rfl)
                refine pu HT_.out (i := 5) (N := some 84) (v := ?_) (a' := ?_) m8_5_ rfl rfl (by kernel_rfl) (fun _ _ _ h => h) (by rfl) ?_ ?_ ?_; rotate_left; (·intro w'; go_simp; with_reducible rfl); rotate_left; (·simp only [Act.put, s1, s2, s3, i64_w, i32_w]; rfl)
                refine take_ (i := 4) (N := some 83) (v := ?_) (a' := ?_) m8_6_ rfl rfl (take_ofW HT_.out HW_.out (by kernel_rfl)) (fun _ _ _ h => h) (Or.inl ⟨by rfl, ?_⟩) hHeld ?_ ?_; rotate_left; (·rintro w' ⟨s0, s1, s2, s3, s4, s5, s6, s7, s8, s9, s10, s11, s12, s13, s14⟩; go_simp; with_reducible rfl); rotate_left; (·simp only [Act.put, s1, s2, s3, i64_w, i32_w]; rfl)
                refine take_ (i := 6) (N := some 85) (v := ?_) (a' := ?_) m8_7_ rfl rfl (take_ofW HT_.out HW_.out (by kernel_rfl)) (fun _ _ _ h => h) (Or.inl ⟨by rfl, ?_⟩) hHeld ?_ ?_; rotate_left; (·rintro w' ⟨s0, s1, s2, s3, s4, s5, s6, s7, s8, s9, s10, s11, s12, s13, s14⟩; go_simp; with_reducible rfl); rotate_left; (·simp only [Act.put, s1, s2, s3, i64_w, i32_w]; rfl)
                refine pu HT_.out (i := 7) (N := some 86) (v := ?_) (a' := ?_) m8_8_ rfl rfl (by kernel_rfl) (fun _ _ _ h => h) (by rfl) ?_ ?_ ?_; rotate_left; (·intro w'; go_simp; with_reducible rfl); rotate_left; (·simp only [Act.put, s1, s2, s3, i64_w, i32_w]; rfl)
                refine pu HT_.out (i := 8) (N := some 87) (v := ?_) (a' := ?_) m8_9_ rfl rfl (by kernel_rfl) (fun _ _ _ h => h) (by rfl) ?_ ?_ ?_; rotate_left; (·intro w'; go_simp; with_reducible rfl); rotate_left; (·simp only [Act.put, s1, s2, s3, i64_w, i32_w]; rfl)
                refine pu HT_.out (i := 9) (N := some 88) (v := ?_) (a' := ?_) m8_10_ rfl rfl (by kernel_rfl) (fun _ _ _ h => h) (by rfl) ?_ ?_ ?_; rotate_left; (·intro w'; go_simp; with_reducible rfl); rotate_left; (·simp only [Act.put, s1, s2, s3, i64_w, i32_w]; rfl)
                refine pu HT_.out (i := 10) (N := some 89) (v := ?_) (a' := ?_) m8_11_ rfl rfl (by kernel_rfl) (fun _ _ _ h => h) (by rfl) ?_ ?_ ?_; rotate_left; (·intro w'; go_simp; with_reducible rfl); rotate_left; (·simp only [Act.put, s1, s2, s3, i64_w, i32_w]; rfl)
                refine pu HT_.out (i := 13) (N := some 92) (v := ?_) (a' := ?_) m8_12_ rfl rfl (by kernel_rfl) (fun _ _ _ h => h) (by rfl) ?_ ?_ ?_; rotate_left; (·intro w'; go_simp; with_reducible rfl); rotate_left; (·simp only [Act.put, s1, s2, s3, i64_w, i32_w]; rfl)
                refine take_ (i := 11) (N := some 90) (v := ?_) (a' := ?_) m8_13_ rfl rfl (take_ofW HT_.out HW_.out (by kernel_rfl)) (fun _ _ _ h => h) (Or.inl ⟨by rfl, ?_⟩) hHeld ?_ ?_; rotate_left; (·rintro w' ⟨s0, s1, s2, s3, s4, s5, s6, s7, s8, s9, s10, s11, s12, s13, s14⟩; go_simp; with_reducible rfl); rotate_left; (·simp only [Act.put, s1, s2, s3, i64_w, i32_w]; rfl)
                refine pu HT_.out (i := 12) (N := some 91) (v := ?_) (a' := ?_) m8_14_ rfl rfl (by kernel_rfl) (fun _ _ _ h => h) (by rfl) ?_ ?_ ?_; rotate_left; (·intro w'; go_simp; with_reducible rfl); rotate_left; (·simp only [Act.put, s1, s2, s3, i64_w, i32_w]; rfl)
                refine take_ (i := 14) (N := some 93) (v := ?_) (a' := ?_) m8_15_ rfl rfl (take_ofW HT_.out HW_.out (by kernel_rfl)) (fun _ _ _ h => h) (Or.inl ⟨by rfl, ?_⟩) hHeld ?_ ?_; rotate_left; (·rintro w' ⟨s0, s1, s2, s3, s4, s5, s6, s7, s8, s9, s10, s11, s12, s13, s14⟩; go_simp; with_reducible rfl); rotate_left; (·simp only [Act.put, s1, s2, s3, i64_w, i32_w]; rfl)
                refine pu HT_.out (i := 15) (N := some 94) (v := ?_) (a' := ?_) m8_16_ rfl rfl (by kernel_rfl) (fun _ _ _ h => h) (by rfl) ?_ ?_ ?_; rotate_left; (·intro w'; go_simp; with_reducible rfl); rotate_left; (·simp only [Act.put, s1, s2, s3, i64_w, i32_w]; rfl)
                refine pu HT_.out (i := 16) (N := some 95) (v := ?_) (a' := ?_) m8_17_ rfl rfl (by kernel_rfl) (fun _ _ _ h => h) (by rfl) ?_ ?_ ?_; rotate_left; (·intro w'; go_simp; with_reducible rfl); rotate_left; (·simp only [Act.put, s1, s2, s3, i64_w, i32_w]; rfl)
                refine pu HT_.out (i := 17) (N := some 96) (v := ?_) (a' := ?_) m8_18_ rfl rfl (by kernel_rfl) (fun _ _ _ h => h) (by rfl) ?_ ?_ ?_; rotate_left; (·intro w'; go_simp; with_reducible rfl); rotate_left; (·simp only [Act.put, s1, s2, s3, i64_w, i32_w]; rfl)
                refine pu HT_.out (i := 18) (N := some 97) (v := ?_) (a' := ?_) m8_19_ rfl rfl (by kernel_rfl) (fun _ _ _ h => h) (by rfl) ?_ ?_ ?_; rotate_left; (·intro w'; go_simp; with_reducible rfl); rotate_left; (·simp only [Act.put, s1, s2, s3, i64_w, i32_w]; rfl)
                refine pu HT_.out (i := 19) (N := some 98) (v := ?_) (a' := ?_) m8_20_ rfl rfl (by kernel_rfl) (fun _ _ _ h => h) (by rfl) ?_ ?_ ?_; rotate_left; (·intro w'; go_simp; with_reducible rfl); rotate_left; (·simp only [Act.put, s1, s2, s3, i64_w, i32_w]; rfl)
                refine pu HT_.out (i := 21) (N := some 100) (v := ?_) (a' := ?_) m8_21_ rfl rfl (by kernel_rfl) (fun _ _ _ h => h) (by rfl) ?_ ?_ ?_; rotate_left; (·intro w'; go_simp; with_reducible rfl); rotate_left; (·simp only [Act.put, s1, s2, s3, i64_w, i32_w]; rfl)
                refine pu HT_.out (i := 25) (N := some 104) (v := ?_) (a' := ?_) m8_22_ rfl rfl (by kernel_rfl) (fun _ _ _ h => h) (by rfl) ?_ ?_ ?_; rotate_left; (·intro w'; go_simp; with_reducible rfl); rotate_left; (·simp only [Act.put, s1, s2, s3, i64_w, i32_w]; rfl)
                refine take_ (i := 20) (N := some 99) (v := ?_) (a' := ?_) m8_23_ rfl rfl (take_ofW HT_.out HW_.out (by kernel_rfl)) (fun _ _ _ h => h) (Or.inl ⟨by rfl, ?_⟩) hHeld ?_ ?_; rotate_left; (·rintro w' ⟨s0, s1, s2, s3, s4, s5, s6, s7, s8, s9, s10, s11, s12, s13, s14⟩; go_simp; with_reducible rfl); rotate_left; (·simp only [Act.put, s1, s2, s3, i64_w, i32_w]; rfl)
                refine take_ (i := 22) (N := some 101) (v := ?_) (a' := ?_) m8_24_ rfl rfl (take_ofW HT_.out HW_.out (by kernel_rfl)) (fun _ _ _ h => h) (Or.inl ⟨by rfl, ?_⟩) hHeld ?_ ?_; rotate_left; (·rintro w' ⟨s0, s1, s2, s3, s4, s5, s6, s7, s8, s9, s10, s11, s12, s13, s14⟩; go_simp; with_reducible rfl); rotate_left; (·simp only [Act.put, s1, s2, s3, i64_w, i32_w]; rfl)
                refine pu HT_.out (i := 23) (N := some 102) (v := ?_) (a' := ?_) m8_25_ rfl rfl (by kernel_rfl) (fun _ _ _ h => h) (by rfl) ?_ ?_ ?_; rotate_left; (·intro w'; go_simp; with_reducible rfl); rotate_left; (·simp only [Act.put, s1, s2, s3, i64_w, i32_w]; rfl)
                refine pu HT_.out (i := 24) (N := some 103) (v := ?_) (a' := ?_) m8_26_ rfl rfl (by kernel_rfl) (fun _ _ _ h => h) (by rfl) ?_ ?_ ?_; rotate_left; (·intro w'; go_simp; with_reducible rfl); rotate_left; (·simp only [Act.put, s1, s2, s3, i64_w, i32_w]; rfl)
                refine take_ (i := 26) (N := some 105) (v := ?_) (a' := ?_) m8_27_ rfl rfl (take_ofW HT_.out HW_.out (by kernel_rfl)) (fun _ _ _ h => h) (Or.inl ⟨by rfl, ?_⟩) hHeld ?_ ?_; rotate_left; (·rintro w' ⟨s0, s1, s2, s3, s4, s5, s6, s7, s8, s9, s10, s11, s12, s13, s14⟩; go_simp; with_reducible rfl); rotate_left; (·simp only [Act.put, s1, s2, s3, i64_w, i32_w]; rfl)
                refine pu HT_.out (i := 27) (N := some 106) (v := ?_) (a' := ?_) m8_28_ rfl rfl (by kernel_rfl) (fun _ _ _ h => h) (by rfl) ?_ ?_ ?_; rotate_left; (·intro w'; go_simp; with_reducible rfl); rotate_left; (·simp only [Act.put, s1, s2, s3, i64_w, i32_w]; rfl)
                refine pu HT_.out (i := 28) (N := some 107) (v := ?_) (a' := ?_) m8_29_ rfl rfl (by kernel_rfl) (fun _ _ _ h => h) (by rfl) ?_ ?_ ?_; rotate_left; (·intro w'; go_simp; with_reducible rfl); rotate_left; (·simp only [Act.put, s1, s2, s3, i64_w, i32_w]; rfl)
                refine pu HT_.out (i := 29) (N := some 108) (v := ?_) (a' := ?_) m8_30_ rfl rfl (by kernel_rfl) (fun _ _ _ h => h) (by rfl) ?_ ?_ ?_; rotate_left; (·intro w'; go_simp; with_reducible rfl); rotate_left; (·simp only [Act.put, s1, s2, s3, i64_w, i32_w]; rfl)
                refine pu HT_.out (i := 30) (N := some 109) (v := ?_) (a' := ?_) m8_31_ rfl rfl (by kernel_rfl) (fun _ _ _ h => h) (by rfl) ?_ ?_ ?_; rotate_left; (·intro w'; go_simp; with_reducible rfl); rotate_left; (·simp only [Act.put, s1, s2, s3, i64_w, i32_w]; rfl)
                refine pu HT_.out (i := 32) (N := some 111) (v := ?_) (a' := ?_) m8_32_ rfl rfl (by kernel_rfl) (fun _ _ _ h => h) (by rfl) ?_ ?_ ?_; rotate_left; (·intro w'; go_simp; with_reducible rfl); rotate_left; (·simp only [Act.put, s1, s2, s3, i64_w, i32_w]; rfl)
                refine pu HT_.out (i := 36) (N := some 115) (v := ?_) (a' := ?_) m8_33_ rfl rfl (by kernel_rfl) (fun _ _ _ h => h) (by rfl) ?_ ?_ ?_; rotate_left; (·intro w'; go_simp; with_reducible rfl); rotate_left; (·simp only [Act.put, s1, s2, s3, i64_w, i32_w]; rfl)
                refine take_ (i := 31) (N := some 110) (v := ?_) (a' := ?_) m8_34_ rfl rfl (take_ofW HT_.out HW_.out (by kernel_rfl)) (fun _ _ _ h => h) (Or.inl ⟨by rfl, ?_⟩) hHeld ?_ ?_; rotate_left; (·rintro w' ⟨s0, s1, s2, s3, s4, s5, s6, s7, s8, s9, s10, s11, s12, s13, s14⟩; go_simp; with_reducible rfl); rotate_left; (·simp only [Act.put, s1, s2, s3, i64_w, i32_w]; rfl)
                refine take_ (i := 33) (N := some 112) (v := ?_) (a' := ?_) m8_35_ rfl rfl (take_ofW HT_.out HW_.out (by kernel_rfl)) (fun _ _ _ h => h) (Or.inl ⟨by rfl, ?_⟩) hHeld ?_ ?_; rotate_left; (·rintro w' ⟨s0, s1, s2, s3, s4, s5, s6, s7, s8, s9, s10, s11, s12, s13, s14⟩; go_simp; with_reducible rfl); rotate_left; (·simp only [Act.put, s1, s2, s3, i64_w, i32_w]; rfl)
                refine pu HT_.out (i := 34) (N := some 113) (v := ?_) (a' := ?_) m8_36_ rfl rfl (by kernel_rfl) (fun _ _ _ h => h) (by rfl) ?_ ?_ ?_; rotate_left; (·intro w'; go_simp; with_reducible rfl); rotate_left; (·simp only [Act.put, s1, s2, s3, i64_w, i32_w]; rfl)
                refine pu HT_.out (i := 35) (N := some 114) (v := ?_) (a' := ?_) m8_37_ rfl rfl (by kernel_rfl) (fun _ _ _ h => h) (by rfl) ?_ ?_ ?_; rotate_left; (·intro w'; go_simp; with_reducible rfl); rotate_left; (·simp only [Act.put, s1, s2, s3, i64_w, i32_w]; rfl)
                refine take_ (i := 37) (N := some 116) (v := ?_) (a' := ?_) m8_38_ rfl rfl (take_ofW HT_.out HW_.out (by kernel_rfl)) (fun _ _ _ h => h) (Or.inl ⟨by rfl, ?_⟩) hHeld ?_ ?_; rotate_left; (·rintro w' ⟨s0, s1, s2, s3, s4, s5, s6, s7, s8, s9, s10, s11, s12, s13, s14⟩; go_simp; with_reducible rfl); rotate_left; (·simp only [Act.put, s1, s2, s3, i64_w, i32_w]; rfl)
                refine pu HT_.out (i := 38) (N := some 117) (v := ?_) (a' := ?_) m8_39_ rfl rfl (by kernel_rfl) (fun _ _ _ h => h) (by rfl) ?_ ?_ ?_; rotate_left; (·intro w'; go_simp; with_reducible rfl); rotate_left; (·simp only [Act.put, s1, s2, s3, i64_w, i32_w]; rfl)
                refine pu HT_.out (i := 39) (N := some 118) (v := ?_) (a' := ?_) m8_40_ rfl rfl (by kernel_rfl) (fun _ _ _ h => h) (by rfl) ?_ ?_ ?_; rotate_left; (·intro w'; go_simp; with_reducible rfl); rotate_left; (·simp only [Act.put, s1, s2, s3, i64_w, i32_w]; rfl)
                refine pu HT_.out (i := 40) (N := some 119) (v := ?_) (a' := ?_) m8_41_ rfl rfl (by kernel_rfl) (fun _ _ _ h => h) (by rfl) ?_ ?_ ?_; rotate_left; (·intro w'; go_simp; with_reducible rfl); rotate_left; (·simp only [Act.put, s1, s2, s3, i64_w, i32_w]; rfl)
                refine pure_ (i := 41) (N := some 120) (v := undef) (a' := ?_) m8_42_ rfl rfl (any_of HT_.out (by kernel_rfl)) (fun _ _ _ h => h) (Or.inr ⟨by rfl, rfl⟩) ?_ ?_
                rotate_left
                ·simp only [Act.put, s1, s2, s3, i64_w, i32_w]
                 rfl
                refine pure_ (i := 42) (N := some 121) (v := undef) (a' := ?_) m8_43_ rfl rfl (any_of HT_.out (by kernel_rfl)) (fun _ _ _ h => h) (Or.inr ⟨by rfl, rfl⟩) ?_ ?_
                rotate_left
                ·simp only [Act.put, s1, s2, s3, i64_w, i32_w]
                 rfl
                refine pure_ (i := 43) (N := some 122) (v := undef) (a' := ?_) m8_44_ rfl rfl (any_of HT_.out (by kernel_rfl)) (fun _ _ _ h => h) (Or.inr ⟨by rfl, rfl⟩) ?_ ?_
                rotate_left
                ·simp only [Act.put, s1, s2, s3, i64_w, i32_w]
                 rfl
                refine pure_ (i := 44) (N := some 123) (v := undef) (a' := ?_) m8_45_ rfl rfl (any_of HT_.out (by kernel_rfl)) (fun _ _ _ h => h) (Or.inr ⟨by rfl, rfl⟩) ?_ ?_
                rotate_left
                ·simp only [Act.put, s1, s2, s3, i64_w, i32_w]
                 rfl
                refine pure_ (i := 45) (N := some 124) (v := undef) (a' := ?_) m8_46_ rfl rfl (any_of HT_.out (by kernel_rfl)) (fun _ _ _ h => h) (Or.inr ⟨by rfl, rfl⟩) ?_ ?_
                rotate_left
                ·simp only [Act.put, s1, s2, s3, i64_w, i32_w]
                 rfl
                refine pure_ (i := 46) (N := some 125) (v := undef) (a' := ?_) m8_47_ rfl rfl (any_of HT_.out (by kernel_rfl)) (fun _ _ _ h => h) (Or.inr ⟨by rfl, rfl⟩) ?_ ?_
                rotate_left
                ·simp only [Act.put, s1, s2, s3, i64_w, i32_w]
                 rfl
                refine pu HT_.out (i := 47) (N := some 126) (v := ?_) (a' := ?_) m8_48_ rfl rfl (by kernel_rfl) (fun _ _ _ h => h) (by rfl) ?_ ?_ ?_; rotate_left; (·intro w'; go_simp; with_reducible rfl); rotate_left; (·simp only [Act.put, s1, s2, s3, i64_w, i32_w]; rfl)
                refine pu HT_.out (i := 48) (N := some 10) (v := ?_) (a' := ?_) m8_49_ rfl rfl (by kernel_rfl) (fun _ _ _ h => h) (by rfl) ?_ ?_ ?_; rotate_left; (·intro w'; go_simp; with_reducible rfl); rotate_left; (·simp only [Act.put, s1, s2, s3, i64_w, i32_w]; rfl)
                refine done_ (done_of HT_.out (by kernel_rfl)) ?_
                try go_wp2
                go_ret
                exact ⟨by first | rfl | (simp [errW_none, errW_some] <;> rfl) | (simp [*, errW_none, errW_some] <;> rfl), by repeat first | refine below_set ?_ GE356.out | refine below_set ?_ GE363.out | refine below_set ?_ GE376.out | refine below_set ?_ GE383.out | refine below_set ?_ GE392.out | refine below_set ?_ GE399.out | exact HB.out | apply below_alloc | apply pw_below_drewN | apply below_drew1⟩
              ·rw [if_neg c65] at H
               exact absurd H (by simp)
             ·rw [if_neg c64] at H
              exact absurd H (by simp)
            ·rw [if_neg c63] at H
             have c63b0 : ((t386.extract 0 ((t377.size : Int) : Int).toNat).toList == t377.toList) = false := beq_eq_false_iff_ne.mpr c63
             (try (have c63b0x := c63b0; simp at c63b0x))
             (try (have c63b0y := c63b0; simp only [Int.toNat_natCast] at c63b0y))
             have c63b1 : ((t386.extract 0 ((t377.size : Int) : Int).toNat).toList != t377.toList) = true := bne_iff_ne.mpr c63
             (try (have c63b1x := c63b1; simp at c63b1x))
             obtain rfl := Option.some.inj H
             have hnb134 := NB383_356.out
             have hnc134 := NB356_383.out
             have hnb135 := NB383_363.out
             have hnc135 := NB363_383.out
             have hnb136 := NB383_376.out
             have hnc136 := NB376_383.out
             have hcz137_0 : wc.cell? ⟨gb383, 0, none⟩ = some (.string t377) := (blk_cell BK383.out 0).trans rfl
             have hcz137_1 : wc.cell? ⟨gb383, 1, none⟩ = some (.int .i64 t378) := (blk_cell BK383.out 1).trans rfl
             have hcz137_2 : wc.cell? ⟨gb383, 2, none⟩ = some (.int .i64 t379) := (blk_cell BK383.out 2).trans rfl
             have hcz137_3 : wc.cell? ⟨gb383, 3, none⟩ = some (.int .i64 t380) := (blk_cell BK383.out 3).trans rfl
             have hcz137_4 : wc.cell? ⟨gb383, 4, none⟩ = some (.int .i64 t381) := (blk_cell BK383.out 4).trans rfl
             have hfz137_0 := blk_frozen BK383.out 0
             have hfz137_1 := blk_frozen BK383.out 1
             have hfz137_2 := blk_frozen BK383.out 2
             have hfz137_3 := blk_frozen BK383.out 3
             have hfz137_4 := blk_frozen BK383.out 4
             try go_wp2_with (first | ((with_reducible refine gate_callee (f := 24) rfl ?_); refine goesL_ (some 66) rfl rfl Tryd.func24 (by kernel_rfl) rfl #[.agg #[.string t377, .int .i64 t378, .int .i64 t379, .int .i64 t380, .int .i64 t381], .int .i32 a2] rfl (by (try simp only [List.map_toArray, List.map_cons, List.map_nil]); first | done | rfl | (simp only [List.length_drop, List.length_take]; rfl)) ?_; (with_reducible refine (cell_Mark.calls kj10 t377 t378 t379 t380 t381 a2 t386 t387 t388 t389 t390 t391 _ A54.out).mono ?_); rintro e w138 ⟨rfl, hb⟩; refine ⟨_, rfl, ?_⟩; replace BK356 := Aside0.mk (bb hb BK356.out); replace BK363 := Aside0.mk (bb hb BK363.out); replace BK376 := Aside0.mk (bb hb BK376.out); replace BK383 := Aside0.mk (bb hb BK383.out); replace HB := Aside0.mk (below_step (by repeat first | refine below_set ?_ GE356.out | refine below_set ?_ GE363.out | refine below_set ?_ GE376.out | refine below_set ?_ GE383.out | exact HB.out | apply below_alloc | apply pw_below_drewN | apply below_drew1) hb); (try clear hb); (try clear hb2); (try clear hk); (try clear hi)) | ((with_reducible refine gate_dst (N := 17) rfl ?_); (try (refine gate_guard (by rfl) ?_; dsimp only)); refine box_event ?hg (N := 17) ?hd (cs := #[.string (⟨#[]⟩ : ByteArray), .int .i64 0, .int .i64 0, .int .i64 0, .int .i64 0]) (t := 40) ?hr ?_; (case hd => rfl); (case hg => rfl); (case hr => first | (go_simp; done) | (go_simp; rfl)); intro gb392 hg w139 hbox hb; have BK392 := Aside0.mk (hbox); have GW392 := Aside0.mk ((by rw [hg]; exact (below_size (by repeat first | refine below_set ?_ GE356.out | refine below_set ?_ GE363.out | refine below_set ?_ GE376.out | refine below_set ?_ GE383.out | exact HB.out | apply below_alloc | apply pw_below_drewN | apply below_drew1)) : w.heap.size ≤ gb392)); have GE392 := GW392; have NB356_392 := Aside0.mk ((by rw [hg]; exact lt1 BK356.out : gb356 ≠ gb392)); have NB392_356 := Aside0.mk ((by rw [hg]; exact gt1 BK356.out : gb392 ≠ gb356)); have NB363_392 := Aside0.mk ((by rw [hg]; exact lt1 BK363.out : gb363 ≠ gb392)); have NB392_363 := Aside0.mk ((by rw [hg]; exact gt1 BK363.out : gb392 ≠ gb363)); have NB376_392 := Aside0.mk ((by rw [hg]; exact lt1 BK376.out : gb376 ≠ gb392)); have NB392_376 := Aside0.mk ((by rw [hg]; exact gt1 BK376.out : gb392 ≠ gb376)); have NB383_392 := Aside0.mk ((by rw [hg]; exact lt1 BK383.out : gb383 ≠ gb392)); have NB392_383 := Aside0.mk ((by rw [hg]; exact gt1 BK383.out : gb392 ≠ gb383)); replace BK356 := Aside0.mk (bb hb BK356.out); replace BK363 := Aside0.mk (bb hb BK363.out); replace BK376 := Aside0.mk (bb hb BK376.out); replace BK383 := Aside0.mk (bb hb BK383.out); replace HB := Aside0.mk (below_step (by repeat first | refine below_set ?_ GE356.out | refine below_set ?_ GE363.out | refine below_set ?_ GE376.out | refine below_set ?_ GE383.out | exact HB.out | apply below_alloc | apply pw_below_drewN | apply below_drew1) hb); clear hb hbox hg; have hnb140 := NB392_356.out; have hnc140 := NB356_392.out; have hnb141 := NB392_363.out; have hnc141 := NB363_392.out; have hnb142 := NB392_376.out; have hnc142 := NB376_392.out; have hnb143 := NB392_383.out; have hnc143 := NB383_392.out; obtain ⟨hcz144_0, hcz144_1, hcz144_2, hcz144_3, hcz144_4, hfz144_0, hfz144_1, hfz144_2, hfz144_3, hfz144_4⟩ := cz5 BK392.out) | ((with_reducible refine gate_callee (f := 24) rfl ?_); refine goesL_ (some 76) rfl rfl Tryd.func24 (by kernel_rfl) rfl #[.agg #[.string t386, .int .i64 t387, .int .i64 t388, .int .i64 t389, .int .i64 t390], .int .i32 a3] rfl (by (try simp only [List.map_toArray, List.map_cons, List.map_nil]); first | done | rfl | (simp only [List.length_drop, List.length_take]; rfl)) ?_; (with_reducible refine (cell_Mark.calls kj10 t386 t387 t388 t389 t390 a3 t393 t394 t395 t396 t397 t398 _ A56.out).mono ?_); rintro e w145 ⟨rfl, hb⟩; refine ⟨_, rfl, ?_⟩; replace BK356 := Aside0.mk (bb hb (far5 NB356_392.out BK356.out)); replace BK363 := Aside0.mk (bb hb (far5 NB363_392.out BK363.out)); replace BK376 := Aside0.mk (bb hb (far5 NB376_392.out BK376.out)); replace BK383 := Aside0.mk (bb hb (far5 NB383_392.out BK383.out)); replace BK392 := Aside0.mk (bb hb (put5 BK392.out)); replace HB := Aside0.mk (below_step (by repeat first | refine below_set ?_ GE356.out | refine below_set ?_ GE363.out | refine below_set ?_ GE376.out | refine below_set ?_ GE383.out | refine below_set ?_ GE392.out | exact HB.out | apply below_alloc | apply pw_below_drewN | apply below_drew1) hb); (try clear hb); (try clear hb2); (try clear hk); (try clear hi)) | ((with_reducible refine gate_dst (N := 19) rfl ?_); (try (refine gate_guard (by rfl) ?_; dsimp only)); refine box_event ?hg (N := 19) ?hd (cs := #[.string (⟨#[]⟩ : ByteArray), .int .i64 0, .int .i64 0, .int .i64 0, .int .i64 0]) (t := 40) ?hr ?_; (case hd => rfl); (case hg => rfl); (case hr => first | (go_simp; done) | (go_simp; rfl)); intro gb399 hg w146 hbox hb; have BK399 := Aside0.mk (hbox); have GW399 := Aside0.mk ((by rw [hg]; exact (below_size (by repeat first | refine below_set ?_ GE356.out | refine below_set ?_ GE363.out | refine below_set ?_ GE376.out | refine below_set ?_ GE383.out | refine below_set ?_ GE392.out | exact HB.out | apply below_alloc | apply pw_below_drewN | apply below_drew1)) : w.heap.size ≤ gb399)); have GE399 := GW399; have NB356_399 := Aside0.mk ((by rw [hg]; exact lt1 BK356.out : gb356 ≠ gb399)); have NB399_356 := Aside0.mk ((by rw [hg]; exact gt1 BK356.out : gb399 ≠ gb356)); have NB363_399 := Aside0.mk ((by rw [hg]; exact lt1 BK363.out : gb363 ≠ gb399)); have NB399_363 := Aside0.mk ((by rw [hg]; exact gt1 BK363.out : gb399 ≠ gb363)); have NB376_399 := Aside0.mk ((by rw [hg]; exact lt1 BK376.out : gb376 ≠ gb399)); have NB399_376 := Aside0.mk ((by rw [hg]; exact gt1 BK376.out : gb399 ≠ gb376)); have NB383_399 := Aside0.mk ((by rw [hg]; exact lt1 BK383.out : gb383 ≠ gb399)); have NB399_383 := Aside0.mk ((by rw [hg]; exact gt1 BK383.out : gb399 ≠ gb383)); have NB392_399 := Aside0.mk ((by rw [hg]; exact lt1 BK392.out : gb392 ≠ gb399)); have NB399_392 := Aside0.mk ((by rw [hg]; exact gt1 BK392.out : gb399 ≠ gb392)); replace BK356 := Aside0.mk (bb hb BK356.out); replace BK363 := Aside0.mk (bb hb BK363.out); replace BK376 := Aside0.mk (bb hb BK376.out); replace BK383 := Aside0.mk (bb hb BK383.out); replace BK392 := Aside0.mk (bb hb BK392.out); replace HB := Aside0.mk (below_step (by repeat first | refine below_set ?_ GE356.out | refine below_set ?_ GE363.out | refine below_set ?_ GE376.out | refine below_set ?_ GE383.out | refine below_set ?_ GE392.out | exact HB.out | apply below_alloc | apply pw_below_drewN | apply below_drew1) hb); clear hb hbox hg; have hnb147 := NB399_356.out; have hnc147 := NB356_399.out; have hnb148 := NB399_363.out; have hnc148 := NB363_399.out; have hnb149 := NB399_376.out; have hnc149 := NB376_399.out; have hnb150 := NB399_383.out; have hnc150 := NB383_399.out; have hnb151 := NB399_392.out; have hnc151 := NB392_399.out; obtain ⟨hcz152_0, hcz152_1, hcz152_2, hcz152_3, hcz152_4, hfz152_0, hfz152_1, hfz152_2, hfz152_3, hfz152_4⟩ := cz5 BK399.out))
             have n0_ : Aside0 ((((((w146.setCell ⟨gb399, 0, none⟩ (.string t393)).setCell ⟨gb399, 1, none⟩ (.int .i64 t394)).setCell ⟨gb399, 2, none⟩ (.int .i64 t395)).setCell ⟨gb399, 3, none⟩ (.int .i64 t396)).setCell ⟨gb399, 4, none⟩ (.int .i64 t397)).heap[gb356]? = some (.cells #[.int .i64 a4_0, .int .i64 a4_1, .int .i64 a4_2] 38 (0, 0))) := ⟨by exact (far5 NB356_399.out BK356.out)⟩
             have n1_ : Aside0 ((((((w146.setCell ⟨gb399, 0, none⟩ (.string t393)).setCell ⟨gb399, 1, none⟩ (.int .i64 t394)).setCell ⟨gb399, 2, none⟩ (.int .i64 t395)).setCell ⟨gb399, 3, none⟩ (.int .i64 t396)).setCell ⟨gb399, 4, none⟩ (.int .i64 t397)).heap[gb363]? = some (.cells #[.string t357, .int .i64 t358, .int .i64 t359, .int .i64 t360, .int .i64 t361] 40 (0, 0))) := ⟨by exact (far5 NB363_399.out BK363.out)⟩
             have n2_ : Aside0 ((((((w146.setCell ⟨gb399, 0, none⟩ (.string t393)).setCell ⟨gb399, 1, none⟩ (.int .i64 t394)).setCell ⟨gb399, 2, none⟩ (.int .i64 t395)).setCell ⟨gb399, 3, none⟩ (.int .i64 t396)).setCell ⟨gb399, 4, none⟩ (.int .i64 t397)).heap[gb376]? = some (.cells #[.string t370, .int .i64 t371, .int .i64 t372, .int .i64 t373, .int .i64 t374] 40 (0, 0))) := ⟨by exact (far5 NB376_399.out BK376.out)⟩
             have n3_ : Aside0 ((((((w146.setCell ⟨gb399, 0, none⟩ (.string t393)).setCell ⟨gb399, 1, none⟩ (.int .i64 t394)).setCell ⟨gb399, 2, none⟩ (.int .i64 t395)).setCell ⟨gb399, 3, none⟩ (.int .i64 t396)).setCell ⟨gb399, 4, none⟩ (.int .i64 t397)).heap[gb383]? = some (.cells #[.string t377, .int .i64 t378, .int .i64 t379, .int .i64 t380, .int .i64 t381] 40 (0, 0))) := ⟨by exact (far5 NB383_399.out BK383.out)⟩
             have n4_ : Aside0 ((((((w146.setCell ⟨gb399, 0, none⟩ (.string t393)).setCell ⟨gb399, 1, none⟩ (.int .i64 t394)).setCell ⟨gb399, 2, none⟩ (.int .i64 t395)).setCell ⟨gb399, 3, none⟩ (.int .i64 t396)).setCell ⟨gb399, 4, none⟩ (.int .i64 t397)).heap[gb392]? = some (.cells #[.string t386, .int .i64 t387, .int .i64 t388, .int .i64 t389, .int .i64 t390] 40 (0, 0))) := ⟨by exact (far5 NB392_399.out BK392.out)⟩
             have n5_ : Aside0 ((((((w146.setCell ⟨gb399, 0, none⟩ (.string t393)).setCell ⟨gb399, 1, none⟩ (.int .i64 t394)).setCell ⟨gb399, 2, none⟩ (.int .i64 t395)).setCell ⟨gb399, 3, none⟩ (.int .i64 t396)).setCell ⟨gb399, 4, none⟩ (.int .i64 t397)).heap[gb399]? = some (.cells #[.string t393, .int .i64 t394, .int .i64 t395, .int .i64 t396, .int .i64 t397] 40 (0, 0))) := ⟨by exact (put5 BK399.out)⟩
             have n6_ : Aside0 (Below w.heap.size w (((((w146.setCell ⟨gb399, 0, none⟩ (.string t393)).setCell ⟨gb399, 1, none⟩ (.int .i64 t394)).setCell ⟨gb399, 2, none⟩ (.int .i64 t395)).setCell ⟨gb399, 3, none⟩ (.int .i64 t396)).setCell ⟨gb399, 4, none⟩ (.int .i64 t397))) := ⟨by repeat first | refine below_set ?_ GE356.out | refine below_set ?_ GE363.out | refine below_set ?_ GE376.out | refine below_set ?_ GE383.out | refine below_set ?_ GE392.out | refine below_set ?_ GE399.out | exact HB.out | apply below_alloc | apply pw_below_drewN | apply below_drew1⟩
             (try clear BK356)
             (try clear BK363)
             (try clear BK376)
             (try clear BK383)
             (try clear BK392)
             (try clear BK399)
             (try clear HB)
             generalize (((((w146.setCell ⟨gb399, 0, none⟩ (.string t393)).setCell ⟨gb399, 1, none⟩ (.int .i64 t394)).setCell ⟨gb399, 2, none⟩ (.int .i64 t395)).setCell ⟨gb399, 3, none⟩ (.int .i64 t396)).setCell ⟨gb399, 4, none⟩ (.int .i64 t397)) = w153 at n0_ n1_ n2_ n3_ n4_ n5_ n6_ ⊢
             have BK356 := n0_
             have BK363 := n1_
             have BK376 := n2_
             have BK383 := n3_
             have BK392 := n4_
             have BK399 := n5_
             have HB := n6_
             clear n0_ n1_ n2_ n3_ n4_ n5_ n6_
             replace BK356 := Aside0.mk (blk_drew BK356.out); replace BK363 := Aside0.mk (blk_drew BK363.out); replace BK376 := Aside0.mk (blk_drew BK376.out); replace BK383 := Aside0.mk (blk_drew BK383.out); replace BK392 := Aside0.mk (blk_drew BK392.out); replace BK399 := Aside0.mk (blk_drew BK399.out); replace HB := Aside0.mk (below_drew1 HB.out)
             refine start_ (n := 49) (S := fun w' => w'.cell? ⟨gb392, 0, none⟩ = some (.string t386) ∧ w'.cell? ⟨gb392, 1, none⟩ = some (.int .i64 t387) ∧ w'.cell? ⟨gb392, 2, none⟩ = some (.int .i64 t388) ∧ w'.cell? ⟨gb392, 3, none⟩ = some (.int .i64 t389) ∧ w'.cell? ⟨gb392, 4, none⟩ = some (.int .i64 t390) ∧ w'.cell? ⟨gb363, 0, none⟩ = some (.string t357) ∧ w'.cell? ⟨gb363, 1, none⟩ = some (.int .i64 t358) ∧ w'.cell? ⟨gb363, 2, none⟩ = some (.int .i64 t359) ∧ w'.cell? ⟨gb363, 3, none⟩ = some (.int .i64 t360) ∧ w'.cell? ⟨gb363, 4, none⟩ = some (.int .i64 t361) ∧ w'.cell? ⟨gb383, 0, none⟩ = some (.string t377) ∧ w'.cell? ⟨gb383, 1, none⟩ = some (.int .i64 t378) ∧ w'.cell? ⟨gb383, 2, none⟩ = some (.int .i64 t379) ∧ w'.cell? ⟨gb383, 3, none⟩ = some (.int .i64 t380) ∧ w'.cell? ⟨gb383, 4, none⟩ = some (.int .i64 t381)) (ds := []) m8_0_ (by kernel_rfl) rfl rfl ⟨(blk_cell BK392.out 0).trans rfl, (blk_cell BK392.out 1).trans rfl, (blk_cell BK392.out 2).trans rfl, (blk_cell BK392.out 3).trans rfl, (blk_cell BK392.out 4).trans rfl, (blk_cell BK363.out 0).trans rfl, (blk_cell BK363.out 1).trans rfl, (blk_cell BK363.out 2).trans rfl, (blk_cell BK363.out 3).trans rfl, (blk_cell BK363.out 4).trans rfl, (blk_cell BK383.out 0).trans rfl, (blk_cell BK383.out 1).trans rfl, (blk_cell BK383.out 2).trans rfl, (blk_cell BK383.out 3).trans rfl, (blk_cell BK383.out 4).trans rfl⟩ (fun hHeld => ?_); refine with_tabW backseatlaw04_CellMarks.tab14 backseatlaw04_CellMarks.bits14 (fun HT_ HW_ => ?_)
             generalize w153.drew = w154 at BK356 BK363 BK376 BK383 BK392 BK399 HB hHeld ⊢
             refine take_ (i := 0) (N := some 79) (v := ?_) (a' := ?_) m8_1_ rfl rfl (take_ofW HT_.out HW_.out (by kernel_rfl)) (fun _ _ _ h => h) (Or.inl ⟨by rfl, ?_⟩) hHeld ?_ ?_; rotate_left; (·rintro w' ⟨s0, s1, s2, s3, s4, s5, s6, s7, s8, s9, s10, s11, s12, s13, s14⟩; go_simp; with_reducible rfl); rotate_left; (·simp only [Act.put, s1, s2, s3, i64_w, i32_w]; rfl)
             refine one_ (i := 1) (N := some 80) m8_2_ rfl rfl (one_of HT_.out (by kernel_rfl)) (by decide) (fun K hK => ?_)
             refine goes_ Tryd.func25 (by kernel_rfl) rfl #[.agg #[.string t386, .int .i64 t387, .int .i64 t388, .int .i64 t389, .int .i64 t390]] (by rfl) rfl rfl (by (try simp only [List.map_toArray, List.map_cons, List.map_nil]); first | done | rfl | (simp only [List.length_drop, List.length_take]; rfl)) ?_
             with_reducible refine (cell_Right.calls kj10 t386 t387 t388 t389 t390 true _ A57.out).mono ?_
             rintro e w155 ⟨rfl, hb⟩
             refine ⟨_, rfl, ?_⟩
             replace BK356 := Aside0.mk (bb hb BK356.out); replace BK363 := Aside0.mk (bb hb BK363.out); replace BK376 := Aside0.mk (bb hb BK376.out); replace BK383 := Aside0.mk (bb hb BK383.out); replace BK392 := Aside0.mk (bb hb BK392.out); replace BK399 := Aside0.mk (bb hb BK399.out); replace HB := Aside0.mk (below_step (by repeat first | refine below_set ?_ GE356.out | refine below_set ?_ GE363.out | refine below_set ?_ GE376.out | refine below_set ?_ GE383.out | refine below_set ?_ GE392.out | refine below_set ?_ GE399.out | exact HB.out | apply below_alloc | apply pw_below_drewN | apply below_drew1) hb)
             (try clear hb)
             (try clear hb2)
             (try clear hk)
             (try clear hi)
             refine hK.out _ _ ⟨(blk_cell BK392.out 0).trans rfl, (blk_cell BK392.out 1).trans rfl, (blk_cell BK392.out 2).trans rfl, (blk_cell BK392.out 3).trans rfl, (blk_cell BK392.out 4).trans rfl, (blk_cell BK363.out 0).trans rfl, (blk_cell BK363.out 1).trans rfl, (blk_cell BK363.out 2).trans rfl, (blk_cell BK363.out 3).trans rfl, (blk_cell BK363.out 4).trans rfl, (blk_cell BK383.out 0).trans rfl, (blk_cell BK383.out 1).trans rfl, (blk_cell BK383.out 2).trans rfl, (blk_cell BK383.out 3).trans rfl, (blk_cell BK383.out 4).trans rfl⟩ (fun hHeld => ?_)
             clear hK K
             refine norm_ (a' := ?_) ?_ ?_
             rotate_left
             ·show Act.put _ (some 80) _ = _
              simp only [Act.put, s1, s2, s3, i64_w, i32_w]
              rfl
             refine pu HT_.out (i := 2) (N := some 81) (v := ?_) (a' := ?_) m8_3_ rfl rfl (by kernel_rfl) (fun _ _ _ h => h) (by rfl) ?_ ?_ ?_; rotate_left; (·intro w'; go_simp; with_reducible rfl); rotate_left; (·simp only [Act.put, s1, s2, s3, i64_w, i32_w]; rfl)
             refine pu HT_.out (i := 3) (N := some 82) (v := ?_) (a' := ?_) m8_4_ rfl rfl (by kernel_rfl) (fun _ _ _ h => h) (by rfl) ?_ ?_ ?_; rotate_left; (·intro w'; go_simp; with_reducible rfl); rotate_left; (·simp only [Act.put, s1, s2, s3, i64_w, i32_w]; rfl)
             refine pu HT_.out (i := 5) (N := some 84) (v := ?_) (a' := ?_) m8_5_ rfl rfl (by kernel_rfl) (fun _ _ _ h => h) (by rfl) ?_ ?_ ?_; rotate_left; (·intro w'; go_simp; with_reducible rfl); rotate_left; (·simp only [Act.put, s1, s2, s3, i64_w, i32_w]; rfl)
             refine take_ (i := 4) (N := some 83) (v := ?_) (a' := ?_) m8_6_ rfl rfl (take_ofW HT_.out HW_.out (by kernel_rfl)) (fun _ _ _ h => h) (Or.inl ⟨by rfl, ?_⟩) hHeld ?_ ?_; rotate_left; (·rintro w' ⟨s0, s1, s2, s3, s4, s5, s6, s7, s8, s9, s10, s11, s12, s13, s14⟩; go_simp; with_reducible rfl); rotate_left; (·simp only [Act.put, s1, s2, s3, i64_w, i32_w]; rfl)
             refine take_ (i := 6) (N := some 85) (v := ?_) (a' := ?_) m8_7_ rfl rfl (take_ofW HT_.out HW_.out (by kernel_rfl)) (fun _ _ _ h => h) (Or.inl ⟨by rfl, ?_⟩) hHeld ?_ ?_; rotate_left; (·rintro w' ⟨s0, s1, s2, s3, s4, s5, s6, s7, s8, s9, s10, s11, s12, s13, s14⟩; go_simp; with_reducible rfl); rotate_left; (·simp only [Act.put, s1, s2, s3, i64_w, i32_w]; rfl)
             refine pu HT_.out (i := 7) (N := some 86) (v := ?_) (a' := ?_) m8_8_ rfl rfl (by kernel_rfl) (fun _ _ _ h => h) (by rfl) ?_ ?_ ?_; rotate_left; (·intro w'; go_simp; with_reducible rfl); rotate_left; (·simp only [Act.put, s1, s2, s3, i64_w, i32_w]; rfl)
             refine pu HT_.out (i := 8) (N := some 87) (v := ?_) (a' := ?_) m8_9_ rfl rfl (by kernel_rfl) (fun _ _ _ h => h) (by rfl) ?_ ?_ ?_; rotate_left; (·intro w'; go_simp; with_reducible rfl); rotate_left; (·simp only [Act.put, s1, s2, s3, i64_w, i32_w]; rfl)
             refine pu HT_.out (i := 9) (N := some 88) (v := ?_) (a' := ?_) m8_10_ rfl rfl (by kernel_rfl) (fun _ _ _ h => h) (by rfl) ?_ ?_ ?_; rotate_left; (·intro w'; go_simp; with_reducible rfl); rotate_left; (·simp only [Act.put, s1, s2, s3, i64_w, i32_w]; rfl)
             refine pu HT_.out (i := 10) (N := some 89) (v := ?_) (a' := ?_) m8_11_ rfl rfl (by kernel_rfl) (fun _ _ _ h => h) (by rfl) ?_ ?_ ?_; rotate_left; (·intro w'; go_simp; with_reducible rfl); rotate_left; (·simp only [Act.put, s1, s2, s3, i64_w, i32_w]; rfl)
             refine pu HT_.out (i := 13) (N := some 92) (v := ?_) (a' := ?_) m8_12_ rfl rfl (by kernel_rfl) (fun _ _ _ h => h) (by rfl) ?_ ?_ ?_; rotate_left; (·intro w'; go_simp; with_reducible rfl); rotate_left; (·simp only [Act.put, s1, s2, s3, i64_w, i32_w]; rfl)
             refine take_ (i := 11) (N := some 90) (v := ?_) (a' := ?_) m8_13_ rfl rfl (take_ofW HT_.out HW_.out (by kernel_rfl)) (fun _ _ _ h => h) (Or.inl ⟨by rfl, ?_⟩) hHeld ?_ ?_; rotate_left; (·rintro w' ⟨s0, s1, s2, s3, s4, s5, s6, s7, s8, s9, s10, s11, s12, s13, s14⟩; go_simp; with_reducible rfl); rotate_left; (·simp only [Act.put, s1, s2, s3, i64_w, i32_w]; rfl)
             refine pu HT_.out (i := 12) (N := some 91) (v := ?_) (a' := ?_) m8_14_ rfl rfl (by kernel_rfl) (fun _ _ _ h => h) (by rfl) ?_ ?_ ?_; rotate_left; (·intro w'; go_simp; with_reducible rfl); rotate_left; (·simp only [Act.put, s1, s2, s3, i64_w, i32_w]; rfl)
             refine take_ (i := 14) (N := some 93) (v := ?_) (a' := ?_) m8_15_ rfl rfl (take_ofW HT_.out HW_.out (by kernel_rfl)) (fun _ _ _ h => h) (Or.inl ⟨by rfl, ?_⟩) hHeld ?_ ?_; rotate_left; (·rintro w' ⟨s0, s1, s2, s3, s4, s5, s6, s7, s8, s9, s10, s11, s12, s13, s14⟩; go_simp; with_reducible rfl); rotate_left; (·simp only [Act.put, s1, s2, s3, i64_w, i32_w]; rfl)
             refine pu HT_.out (i := 15) (N := some 94) (v := ?_) (a' := ?_) m8_16_ rfl rfl (by kernel_rfl) (fun _ _ _ h => h) (by rfl) ?_ ?_ ?_; rotate_left; (·intro w'; go_simp; with_reducible rfl); rotate_left; (·simp only [Act.put, s1, s2, s3, i64_w, i32_w]; rfl)
             refine pu HT_.out (i := 16) (N := some 95) (v := ?_) (a' := ?_) m8_17_ rfl rfl (by kernel_rfl) (fun _ _ _ h => h) (by rfl) ?_ ?_ ?_; rotate_left; (·intro w'; go_simp; with_reducible rfl); rotate_left; (·simp only [Act.put, s1, s2, s3, i64_w, i32_w]; rfl)
             refine pu HT_.out (i := 17) (N := some 96) (v := ?_) (a' := ?_) m8_18_ rfl rfl (by kernel_rfl) (fun _ _ _ h => h) (by rfl) ?_ ?_ ?_; rotate_left; (·intro w'; go_simp; with_reducible rfl); rotate_left; (·simp only [Act.put, s1, s2, s3, i64_w, i32_w]; rfl)
             refine pu HT_.out (i := 18) (N := some 97) (v := ?_) (a' := ?_) m8_19_ rfl rfl (by kernel_rfl) (fun _ _ _ h => h) (by rfl) ?_ ?_ ?_; rotate_left; (·intro w'; go_simp; with_reducible rfl); rotate_left; (·simp only [Act.put, s1, s2, s3, i64_w, i32_w]; rfl)
             refine pu HT_.out (i := 19) (N := some 98) (v := ?_) (a' := ?_) m8_20_ rfl rfl (by kernel_rfl) (fun _ _ _ h => h) (by rfl) ?_ ?_ ?_; rotate_left; (·intro w'; go_simp; with_reducible rfl); rotate_left; (·simp only [Act.put, s1, s2, s3, i64_w, i32_w]; rfl)
             refine pu HT_.out (i := 21) (N := some 100) (v := ?_) (a' := ?_) m8_21_ rfl rfl (by kernel_rfl) (fun _ _ _ h => h) (by rfl) ?_ ?_ ?_; rotate_left; (·intro w'; go_simp; with_reducible rfl); rotate_left; (·simp only [Act.put, s1, s2, s3, i64_w, i32_w]; rfl)
             refine pu HT_.out (i := 25) (N := some 104) (v := ?_) (a' := ?_) m8_22_ rfl rfl (by kernel_rfl) (fun _ _ _ h => h) (by rfl) ?_ ?_ ?_; rotate_left; (·intro w'; go_simp; with_reducible rfl); rotate_left; (·simp only [Act.put, s1, s2, s3, i64_w, i32_w]; rfl)
             refine take_ (i := 20) (N := some 99) (v := ?_) (a' := ?_) m8_23_ rfl rfl (take_ofW HT_.out HW_.out (by kernel_rfl)) (fun _ _ _ h => h) (Or.inl ⟨by rfl, ?_⟩) hHeld ?_ ?_; rotate_left; (·rintro w' ⟨s0, s1, s2, s3, s4, s5, s6, s7, s8, s9, s10, s11, s12, s13, s14⟩; go_simp; with_reducible rfl); rotate_left; (·simp only [Act.put, s1, s2, s3, i64_w, i32_w]; rfl)
             refine take_ (i := 22) (N := some 101) (v := ?_) (a' := ?_) m8_24_ rfl rfl (take_ofW HT_.out HW_.out (by kernel_rfl)) (fun _ _ _ h => h) (Or.inl ⟨by rfl, ?_⟩) hHeld ?_ ?_; rotate_left; (·rintro w' ⟨s0, s1, s2, s3, s4, s5, s6, s7, s8, s9, s10, s11, s12, s13, s14⟩; go_simp; with_reducible rfl); rotate_left; (·simp only [Act.put, s1, s2, s3, i64_w, i32_w]; rfl)
             refine pu HT_.out (i := 23) (N := some 102) (v := ?_) (a' := ?_) m8_25_ rfl rfl (by kernel_rfl) (fun _ _ _ h => h) (by rfl) ?_ ?_ ?_; rotate_left; (·intro w'; go_simp; with_reducible rfl); rotate_left; (·simp only [Act.put, s1, s2, s3, i64_w, i32_w]; rfl)
             refine pu HT_.out (i := 24) (N := some 103) (v := ?_) (a' := ?_) m8_26_ rfl rfl (by kernel_rfl) (fun _ _ _ h => h) (by rfl) ?_ ?_ ?_; rotate_left; (·intro w'; go_simp; with_reducible rfl); rotate_left; (·simp only [Act.put, s1, s2, s3, i64_w, i32_w]; rfl)
             refine take_ (i := 26) (N := some 105) (v := ?_) (a' := ?_) m8_27_ rfl rfl (take_ofW HT_.out HW_.out (by kernel_rfl)) (fun _ _ _ h => h) (Or.inl ⟨by rfl, ?_⟩) hHeld ?_ ?_; rotate_left; (·rintro w' ⟨s0, s1, s2, s3, s4, s5, s6, s7, s8, s9, s10, s11, s12, s13, s14⟩; go_simp; with_reducible rfl); rotate_left; (·simp only [Act.put, s1, s2, s3, i64_w, i32_w]; rfl)
             refine pu HT_.out (i := 27) (N := some 106) (v := ?_) (a' := ?_) m8_28_ rfl rfl (by kernel_rfl) (fun _ _ _ h => h) (by rfl) ?_ ?_ ?_; rotate_left; (·intro w'; go_simp; with_reducible rfl); rotate_left; (·simp only [Act.put, s1, s2, s3, i64_w, i32_w]; rfl)
             refine pu HT_.out (i := 28) (N := some 107) (v := ?_) (a' := ?_) m8_29_ rfl rfl (by kernel_rfl) (fun _ _ _ h => h) (by rfl) ?_ ?_ ?_; rotate_left; (·intro w'; go_simp; with_reducible rfl); rotate_left; (·simp only [Act.put, s1, s2, s3, i64_w, i32_w]; rfl)
             refine pu HT_.out (i := 29) (N := some 108) (v := ?_) (a' := ?_) m8_30_ rfl rfl (by kernel_rfl) (fun _ _ _ h => h) (by rfl) ?_ ?_ ?_; rotate_left; (·intro w'; go_simp; with_reducible rfl); rotate_left; (·simp only [Act.put, s1, s2, s3, i64_w, i32_w]; rfl)
             refine pure_ (i := 30) (N := some 109) (v := undef) (a' := ?_) m8_31_ rfl rfl (any_of HT_.out (by kernel_rfl)) (fun _ _ _ h => h) (Or.inr ⟨by rfl, rfl⟩) ?_ ?_
             rotate_left
             ·simp only [Act.put, s1, s2, s3, i64_w, i32_w]
              rfl
             refine pure_ (i := 31) (N := some 110) (v := undef) (a' := ?_) m8_50_ rfl rfl (any_of HT_.out (by kernel_rfl)) (fun _ _ _ h => h) (Or.inr ⟨by rfl, rfl⟩) ?_ ?_
             rotate_left
             ·simp only [Act.put, s1, s2, s3, i64_w, i32_w]
              rfl
             refine pure_ (i := 32) (N := some 111) (v := undef) (a' := ?_) m8_51_ rfl rfl (any_of HT_.out (by kernel_rfl)) (fun _ _ _ h => h) (Or.inr ⟨by rfl, rfl⟩) ?_ ?_
             rotate_left
             ·simp only [Act.put, s1, s2, s3, i64_w, i32_w]
              rfl
             refine pure_ (i := 33) (N := some 112) (v := undef) (a' := ?_) m8_52_ rfl rfl (any_of HT_.out (by kernel_rfl)) (fun _ _ _ h => h) (Or.inr ⟨by rfl, rfl⟩) ?_ ?_
             rotate_left
             ·simp only [Act.put, s1, s2, s3, i64_w, i32_w]
              rfl
             refine pure_ (i := 34) (N := some 113) (v := undef) (a' := ?_) m8_53_ rfl rfl (any_of HT_.out (by kernel_rfl)) (fun _ _ _ h => h) (Or.inr ⟨by rfl, rfl⟩) ?_ ?_
             rotate_left
             ·simp only [Act.put, s1, s2, s3, i64_w, i32_w]
              rfl
             refine pure_ (i := 35) (N := some 114) (v := undef) (a' := ?_) m8_54_ rfl rfl (any_of HT_.out (by kernel_rfl)) (fun _ _ _ h => h) (Or.inr ⟨by rfl, rfl⟩) ?_ ?_
             rotate_left
             ·simp only [Act.put, s1, s2, s3, i64_w, i32_w]
              rfl
             refine pure_ (i := 36) (N := some 115) (v := undef) (a' := ?_) m8_37_ rfl rfl (any_of HT_.out (by kernel_rfl)) (fun _ _ _ h => h) (Or.inr ⟨by rfl, rfl⟩) ?_ ?_
             rotate_left
             ·simp only [Act.put, s1, s2, s3, i64_w, i32_w]
              rfl
             refine pure_ (i := 37) (N := some 116) (v := undef) (a' := ?_) m8_38_ rfl rfl (any_of HT_.out (by kernel_rfl)) (fun _ _ _ h => h) (Or.inr ⟨by rfl, rfl⟩) ?_ ?_
             rotate_left
             ·simp only [Act.put, s1, s2, s3, i64_w, i32_w]
              rfl
             refine pure_ (i := 38) (N := some 117) (v := undef) (a' := ?_) m8_39_ rfl rfl (any_of HT_.out (by kernel_rfl)) (fun _ _ _ h => h) (Or.inr ⟨by rfl, rfl⟩) ?_ ?_
             rotate_left
             ·simp only [Act.put, s1, s2, s3, i64_w, i32_w]
              rfl
             refine pu HT_.out (i := 39) (N := some 118) (v := ?_) (a' := ?_) m8_40_ rfl rfl (by kernel_rfl) (fun _ _ _ h => h) (by rfl) ?_ ?_ ?_; rotate_left; (·intro w'; go_simp; with_reducible rfl); rotate_left; (·simp only [Act.put, s1, s2, s3, i64_w, i32_w]; rfl)
             refine pu HT_.out (i := 40) (N := some 119) (v := ?_) (a' := ?_) m8_41_ rfl rfl (by kernel_rfl) (fun _ _ _ h => h) (by rfl) ?_ ?_ ?_; rotate_left; (·intro w'; go_simp; with_reducible rfl); rotate_left; (·simp only [Act.put, s1, s2, s3, i64_w, i32_w]; rfl)
             refine pure_ (i := 41) (N := some 120) (v := undef) (a' := ?_) m8_42_ rfl rfl (any_of HT_.out (by kernel_rfl)) (fun _ _ _ h => h) (Or.inr ⟨by rfl, rfl⟩) ?_ ?_
             rotate_left
             ·simp only [Act.put, s1, s2, s3, i64_w, i32_w]
              rfl
             refine pure_ (i := 42) (N := some 121) (v := undef) (a' := ?_) m8_43_ rfl rfl (any_of HT_.out (by kernel_rfl)) (fun _ _ _ h => h) (Or.inr ⟨by rfl, rfl⟩) ?_ ?_
             rotate_left
             ·simp only [Act.put, s1, s2, s3, i64_w, i32_w]
              rfl
             refine pure_ (i := 43) (N := some 122) (v := undef) (a' := ?_) m8_44_ rfl rfl (any_of HT_.out (by kernel_rfl)) (fun _ _ _ h => h) (Or.inr ⟨by rfl, rfl⟩) ?_ ?_
             rotate_left
             ·simp only [Act.put, s1, s2, s3, i64_w, i32_w]
              rfl
             refine pure_ (i := 44) (N := some 123) (v := undef) (a' := ?_) m8_45_ rfl rfl (any_of HT_.out (by kernel_rfl)) (fun _ _ _ h => h) (Or.inr ⟨by rfl, rfl⟩) ?_ ?_
             rotate_left
             ·simp only [Act.put, s1, s2, s3, i64_w, i32_w]
              rfl
             refine pure_ (i := 45) (N := some 124) (v := undef) (a' := ?_) m8_46_ rfl rfl (any_of HT_.out (by kernel_rfl)) (fun _ _ _ h => h) (Or.inr ⟨by rfl, rfl⟩) ?_ ?_
             rotate_left
             ·simp only [Act.put, s1, s2, s3, i64_w, i32_w]
              rfl
             refine pure_ (i := 46) (N := some 125) (v := undef) (a' := ?_) m8_47_ rfl rfl (any_of HT_.out (by kernel_rfl)) (fun _ _ _ h => h) (Or.inr ⟨by rfl, rfl⟩) ?_ ?_
             rotate_left
             ·simp only [Act.put, s1, s2, s3, i64_w, i32_w]
              rfl
             refine pu HT_.out (i := 47) (N := some 126) (v := ?_) (a' := ?_) m8_48_ rfl rfl (by kernel_rfl) (fun _ _ _ h => h) (by rfl) ?_ ?_ ?_; rotate_left; (·intro w'; go_simp; with_reducible rfl); rotate_left; (·simp only [Act.put, s1, s2, s3, i64_w, i32_w]; rfl)
             refine pu HT_.out (i := 48) (N := some 10) (v := ?_) (a' := ?_) m8_49_ rfl rfl (by kernel_rfl) (fun _ _ _ h => h) (by rfl) ?_ ?_ ?_; rotate_left; (·intro w'; go_simp; with_reducible rfl); rotate_left; (·simp only [Act.put, s1, s2, s3, i64_w, i32_w]; rfl)
             refine done_ (done_of HT_.out (by kernel_rfl)) ?_
             try go_wp2
             go_ret
             exact ⟨by first | rfl | (simp [errW_none, errW_some] <;> rfl) | (simp [*, errW_none, errW_some] <;> rfl), by repeat first | refine below_set ?_ GE356.out | refine below_set ?_ GE363.out | refine below_set ?_ GE376.out | refine below_set ?_ GE383.out | refine below_set ?_ GE392.out | refine below_set ?_ GE399.out | exact HB.out | apply below_alloc | apply pw_below_drewN | apply below_drew1⟩
           ·rw [if_neg c62] at H
            exact absurd H (by simp)
          ·rw [if_neg c61] at H
           exact absurd H (by simp)
         ·rw [if_neg c60] at H
          have c60b0 : decide ((t377.size : Int) < (t386.size : Int)) = false := decide_eq_false c60
          have c60b1 : decide (t377.size < t386.size) = false := decide_eq_false (fun h => c60 (Int.ofNat_lt.mpr h))
          clear c60
          obtain rfl := Option.some.inj H
          have hnb156 := NB383_356.out
          have hnc156 := NB356_383.out
          have hnb157 := NB383_363.out
          have hnc157 := NB363_383.out
          have hnb158 := NB383_376.out
          have hnc158 := NB376_383.out
          have hcz159_0 : wc.cell? ⟨gb383, 0, none⟩ = some (.string t377) := (blk_cell BK383.out 0).trans rfl
          have hcz159_1 : wc.cell? ⟨gb383, 1, none⟩ = some (.int .i64 t378) := (blk_cell BK383.out 1).trans rfl
          have hcz159_2 : wc.cell? ⟨gb383, 2, none⟩ = some (.int .i64 t379) := (blk_cell BK383.out 2).trans rfl
          have hcz159_3 : wc.cell? ⟨gb383, 3, none⟩ = some (.int .i64 t380) := (blk_cell BK383.out 3).trans rfl
          have hcz159_4 : wc.cell? ⟨gb383, 4, none⟩ = some (.int .i64 t381) := (blk_cell BK383.out 4).trans rfl
          have hfz159_0 := blk_frozen BK383.out 0
          have hfz159_1 := blk_frozen BK383.out 1
          have hfz159_2 := blk_frozen BK383.out 2
          have hfz159_3 := blk_frozen BK383.out 3
          have hfz159_4 := blk_frozen BK383.out 4
          try go_wp2_with (first | ((with_reducible refine gate_callee (f := 24) rfl ?_); refine goesL_ (some 66) rfl rfl Tryd.func24 (by kernel_rfl) rfl #[.agg #[.string t377, .int .i64 t378, .int .i64 t379, .int .i64 t380, .int .i64 t381], .int .i32 a2] rfl (by (try simp only [List.map_toArray, List.map_cons, List.map_nil]); first | done | rfl | (simp only [List.length_drop, List.length_take]; rfl)) ?_; (with_reducible refine (cell_Mark.calls kj10 t377 t378 t379 t380 t381 a2 t386 t387 t388 t389 t390 t391 _ A54.out).mono ?_); rintro e w160 ⟨rfl, hb⟩; refine ⟨_, rfl, ?_⟩; replace BK356 := Aside0.mk (bb hb BK356.out); replace BK363 := Aside0.mk (bb hb BK363.out); replace BK376 := Aside0.mk (bb hb BK376.out); replace BK383 := Aside0.mk (bb hb BK383.out); replace HB := Aside0.mk (below_step (by repeat first | refine below_set ?_ GE356.out | refine below_set ?_ GE363.out | refine below_set ?_ GE376.out | refine below_set ?_ GE383.out | exact HB.out | apply below_alloc | apply pw_below_drewN | apply below_drew1) hb); (try clear hb); (try clear hb2); (try clear hk); (try clear hi)) | ((with_reducible refine gate_dst (N := 17) rfl ?_); (try (refine gate_guard (by rfl) ?_; dsimp only)); refine box_event ?hg (N := 17) ?hd (cs := #[.string (⟨#[]⟩ : ByteArray), .int .i64 0, .int .i64 0, .int .i64 0, .int .i64 0]) (t := 40) ?hr ?_; (case hd => rfl); (case hg => rfl); (case hr => first | (go_simp; done) | (go_simp; rfl)); intro gb392 hg w161 hbox hb; have BK392 := Aside0.mk (hbox); have GW392 := Aside0.mk ((by rw [hg]; exact (below_size (by repeat first | refine below_set ?_ GE356.out | refine below_set ?_ GE363.out | refine below_set ?_ GE376.out | refine below_set ?_ GE383.out | exact HB.out | apply below_alloc | apply pw_below_drewN | apply below_drew1)) : w.heap.size ≤ gb392)); have GE392 := GW392; have NB356_392 := Aside0.mk ((by rw [hg]; exact lt1 BK356.out : gb356 ≠ gb392)); have NB392_356 := Aside0.mk ((by rw [hg]; exact gt1 BK356.out : gb392 ≠ gb356)); have NB363_392 := Aside0.mk ((by rw [hg]; exact lt1 BK363.out : gb363 ≠ gb392)); have NB392_363 := Aside0.mk ((by rw [hg]; exact gt1 BK363.out : gb392 ≠ gb363)); have NB376_392 := Aside0.mk ((by rw [hg]; exact lt1 BK376.out : gb376 ≠ gb392)); have NB392_376 := Aside0.mk ((by rw [hg]; exact gt1 BK376.out : gb392 ≠ gb376)); have NB383_392 := Aside0.mk ((by rw [hg]; exact lt1 BK383.out : gb383 ≠ gb392)); have NB392_383 := Aside0.mk ((by rw [hg]; exact gt1 BK383.out : gb392 ≠ gb383)); replace BK356 := Aside0.mk (bb hb BK356.out); replace BK363 := Aside0.mk (bb hb BK363.out); replace BK376 := Aside0.mk (bb hb BK376.out); replace BK383 := Aside0.mk (bb hb BK383.out); replace HB := Aside0.mk (below_step (by repeat first | refine below_set ?_ GE356.out | refine below_set ?_ GE363.out | refine below_set ?_ GE376.out | refine below_set ?_ GE383.out | exact HB.out | apply below_alloc | apply pw_below_drewN | apply below_drew1) hb); clear hb hbox hg; have hnb162 := NB392_356.out; have hnc162 := NB356_392.out; have hnb163 := NB392_363.out; have hnc163 := NB363_392.out; have hnb164 := NB392_376.out; have hnc164 := NB376_392.out; have hnb165 := NB392_383.out; have hnc165 := NB383_392.out; obtain ⟨hcz166_0, hcz166_1, hcz166_2, hcz166_3, hcz166_4, hfz166_0, hfz166_1, hfz166_2, hfz166_3, hfz166_4⟩ := cz5 BK392.out) | ((with_reducible refine gate_callee (f := 24) rfl ?_); refine goesL_ (some 76) rfl rfl Tryd.func24 (by kernel_rfl) rfl #[.agg #[.string t386, .int .i64 t387, .int .i64 t388, .int .i64 t389, .int .i64 t390], .int .i32 a3] rfl (by (try simp only [List.map_toArray, List.map_cons, List.map_nil]); first | done | rfl | (simp only [List.length_drop, List.length_take]; rfl)) ?_; (with_reducible refine (cell_Mark.calls kj10 t386 t387 t388 t389 t390 a3 t393 t394 t395 t396 t397 t398 _ A56.out).mono ?_); rintro e w167 ⟨rfl, hb⟩; refine ⟨_, rfl, ?_⟩; replace BK356 := Aside0.mk (bb hb (far5 NB356_392.out BK356.out)); replace BK363 := Aside0.mk (bb hb (far5 NB363_392.out BK363.out)); replace BK376 := Aside0.mk (bb hb (far5 NB376_392.out BK376.out)); replace BK383 := Aside0.mk (bb hb (far5 NB383_392.out BK383.out)); replace BK392 := Aside0.mk (bb hb (put5 BK392.out)); replace HB := Aside0.mk (below_step (by repeat first | refine below_set ?_ GE356.out | refine below_set ?_ GE363.out | refine below_set ?_ GE376.out | refine below_set ?_ GE383.out | refine below_set ?_ GE392.out | exact HB.out | apply below_alloc | apply pw_below_drewN | apply below_drew1) hb); (try clear hb); (try clear hb2); (try clear hk); (try clear hi)) | ((with_reducible refine gate_dst (N := 19) rfl ?_); (try (refine gate_guard (by rfl) ?_; dsimp only)); refine box_event ?hg (N := 19) ?hd (cs := #[.string (⟨#[]⟩ : ByteArray), .int .i64 0, .int .i64 0, .int .i64 0, .int .i64 0]) (t := 40) ?hr ?_; (case hd => rfl); (case hg => rfl); (case hr => first | (go_simp; done) | (go_simp; rfl)); intro gb399 hg w168 hbox hb; have BK399 := Aside0.mk (hbox); have GW399 := Aside0.mk ((by rw [hg]; exact (below_size (by repeat first | refine below_set ?_ GE356.out | refine below_set ?_ GE363.out | refine below_set ?_ GE376.out | refine below_set ?_ GE383.out | refine below_set ?_ GE392.out | exact HB.out | apply below_alloc | apply pw_below_drewN | apply below_drew1)) : w.heap.size ≤ gb399)); have GE399 := GW399; have NB356_399 := Aside0.mk ((by rw [hg]; exact lt1 BK356.out : gb356 ≠ gb399)); have NB399_356 := Aside0.mk ((by rw [hg]; exact gt1 BK356.out : gb399 ≠ gb356)); have NB363_399 := Aside0.mk ((by rw [hg]; exact lt1 BK363.out : gb363 ≠ gb399)); have NB399_363 := Aside0.mk ((by rw [hg]; exact gt1 BK363.out : gb399 ≠ gb363)); have NB376_399 := Aside0.mk ((by rw [hg]; exact lt1 BK376.out : gb376 ≠ gb399)); have NB399_376 := Aside0.mk ((by rw [hg]; exact gt1 BK376.out : gb399 ≠ gb376)); have NB383_399 := Aside0.mk ((by rw [hg]; exact lt1 BK383.out : gb383 ≠ gb399)); have NB399_383 := Aside0.mk ((by rw [hg]; exact gt1 BK383.out : gb399 ≠ gb383)); have NB392_399 := Aside0.mk ((by rw [hg]; exact lt1 BK392.out : gb392 ≠ gb399)); have NB399_392 := Aside0.mk ((by rw [hg]; exact gt1 BK392.out : gb399 ≠ gb392)); replace BK356 := Aside0.mk (bb hb BK356.out); replace BK363 := Aside0.mk (bb hb BK363.out); replace BK376 := Aside0.mk (bb hb BK376.out); replace BK383 := Aside0.mk (bb hb BK383.out); replace BK392 := Aside0.mk (bb hb BK392.out); replace HB := Aside0.mk (below_step (by repeat first | refine below_set ?_ GE356.out | refine below_set ?_ GE363.out | refine below_set ?_ GE376.out | refine below_set ?_ GE383.out | refine below_set ?_ GE392.out | exact HB.out | apply below_alloc | apply pw_below_drewN | apply below_drew1) hb); clear hb hbox hg; have hnb169 := NB399_356.out; have hnc169 := NB356_399.out; have hnb170 := NB399_363.out; have hnc170 := NB363_399.out; have hnb171 := NB399_376.out; have hnc171 := NB376_399.out; have hnb172 := NB399_383.out; have hnc172 := NB383_399.out; have hnb173 := NB399_392.out; have hnc173 := NB392_399.out; obtain ⟨hcz174_0, hcz174_1, hcz174_2, hcz174_3, hcz174_4, hfz174_0, hfz174_1, hfz174_2, hfz174_3, hfz174_4⟩ := cz5 BK399.out))
          have n0_ : Aside0 ((((((w168.setCell ⟨gb399, 0, none⟩ (.string t393)).setCell ⟨gb399, 1, none⟩ (.int .i64 t394)).setCell ⟨gb399, 2, none⟩ (.int .i64 t395)).setCell ⟨gb399, 3, none⟩ (.int .i64 t396)).setCell ⟨gb399, 4, none⟩ (.int .i64 t397)).heap[gb356]? = some (.cells #[.int .i64 a4_0, .int .i64 a4_1, .int .i64 a4_2] 38 (0, 0))) := ⟨by exact (far5 NB356_399.out BK356.out)⟩
          have n1_ : Aside0 ((((((w168.setCell ⟨gb399, 0, none⟩ (.string t393)).setCell ⟨gb399, 1, none⟩ (.int .i64 t394)).setCell ⟨gb399, 2, none⟩ (.int .i64 t395)).setCell ⟨gb399, 3, none⟩ (.int .i64 t396)).setCell ⟨gb399, 4, none⟩ (.int .i64 t397)).heap[gb363]? = some (.cells #[.string t357, .int .i64 t358, .int .i64 t359, .int .i64 t360, .int .i64 t361] 40 (0, 0))) := ⟨by exact (far5 NB363_399.out BK363.out)⟩
          have n2_ : Aside0 ((((((w168.setCell ⟨gb399, 0, none⟩ (.string t393)).setCell ⟨gb399, 1, none⟩ (.int .i64 t394)).setCell ⟨gb399, 2, none⟩ (.int .i64 t395)).setCell ⟨gb399, 3, none⟩ (.int .i64 t396)).setCell ⟨gb399, 4, none⟩ (.int .i64 t397)).heap[gb376]? = some (.cells #[.string t370, .int .i64 t371, .int .i64 t372, .int .i64 t373, .int .i64 t374] 40 (0, 0))) := ⟨by exact (far5 NB376_399.out BK376.out)⟩
          have n3_ : Aside0 ((((((w168.setCell ⟨gb399, 0, none⟩ (.string t393)).setCell ⟨gb399, 1, none⟩ (.int .i64 t394)).setCell ⟨gb399, 2, none⟩ (.int .i64 t395)).setCell ⟨gb399, 3, none⟩ (.int .i64 t396)).setCell ⟨gb399, 4, none⟩ (.int .i64 t397)).heap[gb383]? = some (.cells #[.string t377, .int .i64 t378, .int .i64 t379, .int .i64 t380, .int .i64 t381] 40 (0, 0))) := ⟨by exact (far5 NB383_399.out BK383.out)⟩
          have n4_ : Aside0 ((((((w168.setCell ⟨gb399, 0, none⟩ (.string t393)).setCell ⟨gb399, 1, none⟩ (.int .i64 t394)).setCell ⟨gb399, 2, none⟩ (.int .i64 t395)).setCell ⟨gb399, 3, none⟩ (.int .i64 t396)).setCell ⟨gb399, 4, none⟩ (.int .i64 t397)).heap[gb392]? = some (.cells #[.string t386, .int .i64 t387, .int .i64 t388, .int .i64 t389, .int .i64 t390] 40 (0, 0))) := ⟨by exact (far5 NB392_399.out BK392.out)⟩
          have n5_ : Aside0 ((((((w168.setCell ⟨gb399, 0, none⟩ (.string t393)).setCell ⟨gb399, 1, none⟩ (.int .i64 t394)).setCell ⟨gb399, 2, none⟩ (.int .i64 t395)).setCell ⟨gb399, 3, none⟩ (.int .i64 t396)).setCell ⟨gb399, 4, none⟩ (.int .i64 t397)).heap[gb399]? = some (.cells #[.string t393, .int .i64 t394, .int .i64 t395, .int .i64 t396, .int .i64 t397] 40 (0, 0))) := ⟨by exact (put5 BK399.out)⟩
          have n6_ : Aside0 (Below w.heap.size w (((((w168.setCell ⟨gb399, 0, none⟩ (.string t393)).setCell ⟨gb399, 1, none⟩ (.int .i64 t394)).setCell ⟨gb399, 2, none⟩ (.int .i64 t395)).setCell ⟨gb399, 3, none⟩ (.int .i64 t396)).setCell ⟨gb399, 4, none⟩ (.int .i64 t397))) := ⟨by repeat first | refine below_set ?_ GE356.out | refine below_set ?_ GE363.out | refine below_set ?_ GE376.out | refine below_set ?_ GE383.out | refine below_set ?_ GE392.out | refine below_set ?_ GE399.out | exact HB.out | apply below_alloc | apply pw_below_drewN | apply below_drew1⟩
          (try clear BK356)
          (try clear BK363)
          (try clear BK376)
          (try clear BK383)
          (try clear BK392)
          (try clear BK399)
          (try clear HB)
          generalize (((((w168.setCell ⟨gb399, 0, none⟩ (.string t393)).setCell ⟨gb399, 1, none⟩ (.int .i64 t394)).setCell ⟨gb399, 2, none⟩ (.int .i64 t395)).setCell ⟨gb399, 3, none⟩ (.int .i64 t396)).setCell ⟨gb399, 4, none⟩ (.int .i64 t397)) = w175 at n0_ n1_ n2_ n3_ n4_ n5_ n6_ ⊢
          have BK356 := n0_
          have BK363 := n1_
          have BK376 := n2_
          have BK383 := n3_
          have BK392 := n4_
          have BK399 := n5_
          have HB := n6_
          clear n0_ n1_ n2_ n3_ n4_ n5_ n6_
          replace BK356 := Aside0.mk (blk_drew BK356.out); replace BK363 := Aside0.mk (blk_drew BK363.out); replace BK376 := Aside0.mk (blk_drew BK376.out); replace BK383 := Aside0.mk (blk_drew BK383.out); replace BK392 := Aside0.mk (blk_drew BK392.out); replace BK399 := Aside0.mk (blk_drew BK399.out); replace HB := Aside0.mk (below_drew1 HB.out)
          refine start_ (n := 49) (S := fun w' => w'.cell? ⟨gb392, 0, none⟩ = some (.string t386) ∧ w'.cell? ⟨gb392, 1, none⟩ = some (.int .i64 t387) ∧ w'.cell? ⟨gb392, 2, none⟩ = some (.int .i64 t388) ∧ w'.cell? ⟨gb392, 3, none⟩ = some (.int .i64 t389) ∧ w'.cell? ⟨gb392, 4, none⟩ = some (.int .i64 t390) ∧ w'.cell? ⟨gb363, 0, none⟩ = some (.string t357) ∧ w'.cell? ⟨gb363, 1, none⟩ = some (.int .i64 t358) ∧ w'.cell? ⟨gb363, 2, none⟩ = some (.int .i64 t359) ∧ w'.cell? ⟨gb363, 3, none⟩ = some (.int .i64 t360) ∧ w'.cell? ⟨gb363, 4, none⟩ = some (.int .i64 t361) ∧ w'.cell? ⟨gb383, 0, none⟩ = some (.string t377) ∧ w'.cell? ⟨gb383, 1, none⟩ = some (.int .i64 t378) ∧ w'.cell? ⟨gb383, 2, none⟩ = some (.int .i64 t379) ∧ w'.cell? ⟨gb383, 3, none⟩ = some (.int .i64 t380) ∧ w'.cell? ⟨gb383, 4, none⟩ = some (.int .i64 t381)) (ds := []) m8_0_ (by kernel_rfl) rfl rfl ⟨(blk_cell BK392.out 0).trans rfl, (blk_cell BK392.out 1).trans rfl, (blk_cell BK392.out 2).trans rfl, (blk_cell BK392.out 3).trans rfl, (blk_cell BK392.out 4).trans rfl, (blk_cell BK363.out 0).trans rfl, (blk_cell BK363.out 1).trans rfl, (blk_cell BK363.out 2).trans rfl, (blk_cell BK363.out 3).trans rfl, (blk_cell BK363.out 4).trans rfl, (blk_cell BK383.out 0).trans rfl, (blk_cell BK383.out 1).trans rfl, (blk_cell BK383.out 2).trans rfl, (blk_cell BK383.out 3).trans rfl, (blk_cell BK383.out 4).trans rfl⟩ (fun hHeld => ?_); refine with_tabW backseatlaw04_CellMarks.tab14 backseatlaw04_CellMarks.bits14 (fun HT_ HW_ => ?_)
          generalize w175.drew = w176 at BK356 BK363 BK376 BK383 BK392 BK399 HB hHeld ⊢
          refine take_ (i := 0) (N := some 79) (v := ?_) (a' := ?_) m8_1_ rfl rfl (take_ofW HT_.out HW_.out (by kernel_rfl)) (fun _ _ _ h => h) (Or.inl ⟨by rfl, ?_⟩) hHeld ?_ ?_; rotate_left; (·rintro w' ⟨s0, s1, s2, s3, s4, s5, s6, s7, s8, s9, s10, s11, s12, s13, s14⟩; go_simp; with_reducible rfl); rotate_left; (·simp only [Act.put, s1, s2, s3, i64_w, i32_w]; rfl)
          refine one_ (i := 1) (N := some 80) m8_2_ rfl rfl (one_of HT_.out (by kernel_rfl)) (by decide) (fun K hK => ?_)
          refine goes_ Tryd.func25 (by kernel_rfl) rfl #[.agg #[.string t386, .int .i64 t387, .int .i64 t388, .int .i64 t389, .int .i64 t390]] (by rfl) rfl rfl (by (try simp only [List.map_toArray, List.map_cons, List.map_nil]); first | done | rfl | (simp only [List.length_drop, List.length_take]; rfl)) ?_
          with_reducible refine (cell_Right.calls kj10 t386 t387 t388 t389 t390 true _ A57.out).mono ?_
          rintro e w177 ⟨rfl, hb⟩
          refine ⟨_, rfl, ?_⟩
          replace BK356 := Aside0.mk (bb hb BK356.out); replace BK363 := Aside0.mk (bb hb BK363.out); replace BK376 := Aside0.mk (bb hb BK376.out); replace BK383 := Aside0.mk (bb hb BK383.out); replace BK392 := Aside0.mk (bb hb BK392.out); replace BK399 := Aside0.mk (bb hb BK399.out); replace HB := Aside0.mk (below_step (by repeat first | refine below_set ?_ GE356.out | refine below_set ?_ GE363.out | refine below_set ?_ GE376.out | refine below_set ?_ GE383.out | refine below_set ?_ GE392.out | refine below_set ?_ GE399.out | exact HB.out | apply below_alloc | apply pw_below_drewN | apply below_drew1) hb)
          (try clear hb)
          (try clear hb2)
          (try clear hk)
          (try clear hi)
          refine hK.out _ _ ⟨(blk_cell BK392.out 0).trans rfl, (blk_cell BK392.out 1).trans rfl, (blk_cell BK392.out 2).trans rfl, (blk_cell BK392.out 3).trans rfl, (blk_cell BK392.out 4).trans rfl, (blk_cell BK363.out 0).trans rfl, (blk_cell BK363.out 1).trans rfl, (blk_cell BK363.out 2).trans rfl, (blk_cell BK363.out 3).trans rfl, (blk_cell BK363.out 4).trans rfl, (blk_cell BK383.out 0).trans rfl, (blk_cell BK383.out 1).trans rfl, (blk_cell BK383.out 2).trans rfl, (blk_cell BK383.out 3).trans rfl, (blk_cell BK383.out 4).trans rfl⟩ (fun hHeld => ?_)
          clear hK K
          refine norm_ (a' := ?_) ?_ ?_
          rotate_left
          ·show Act.put _ (some 80) _ = _
           simp only [Act.put, s1, s2, s3, i64_w, i32_w]
           rfl
          refine pu HT_.out (i := 2) (N := some 81) (v := ?_) (a' := ?_) m8_3_ rfl rfl (by kernel_rfl) (fun _ _ _ h => h) (by rfl) ?_ ?_ ?_; rotate_left; (·intro w'; go_simp; with_reducible rfl); rotate_left; (·simp only [Act.put, s1, s2, s3, i64_w, i32_w]; rfl)
          refine pu HT_.out (i := 3) (N := some 82) (v := ?_) (a' := ?_) m8_4_ rfl rfl (by kernel_rfl) (fun _ _ _ h => h) (by rfl) ?_ ?_ ?_; rotate_left; (·intro w'; go_simp; with_reducible rfl); rotate_left; (·simp only [Act.put, s1, s2, s3, i64_w, i32_w]; rfl)
          refine pu HT_.out (i := 5) (N := some 84) (v := ?_) (a' := ?_) m8_5_ rfl rfl (by kernel_rfl) (fun _ _ _ h => h) (by rfl) ?_ ?_ ?_; rotate_left; (·intro w'; go_simp; with_reducible rfl); rotate_left; (·simp only [Act.put, s1, s2, s3, i64_w, i32_w]; rfl)
          refine take_ (i := 4) (N := some 83) (v := ?_) (a' := ?_) m8_6_ rfl rfl (take_ofW HT_.out HW_.out (by kernel_rfl)) (fun _ _ _ h => h) (Or.inl ⟨by rfl, ?_⟩) hHeld ?_ ?_; rotate_left; (·rintro w' ⟨s0, s1, s2, s3, s4, s5, s6, s7, s8, s9, s10, s11, s12, s13, s14⟩; go_simp; with_reducible rfl); rotate_left; (·simp only [Act.put, s1, s2, s3, i64_w, i32_w]; rfl)
          refine take_ (i := 6) (N := some 85) (v := ?_) (a' := ?_) m8_7_ rfl rfl (take_ofW HT_.out HW_.out (by kernel_rfl)) (fun _ _ _ h => h) (Or.inl ⟨by rfl, ?_⟩) hHeld ?_ ?_; rotate_left; (·rintro w' ⟨s0, s1, s2, s3, s4, s5, s6, s7, s8, s9, s10, s11, s12, s13, s14⟩; go_simp; with_reducible rfl); rotate_left; (·simp only [Act.put, s1, s2, s3, i64_w, i32_w]; rfl)
          refine pu HT_.out (i := 7) (N := some 86) (v := ?_) (a' := ?_) m8_8_ rfl rfl (by kernel_rfl) (fun _ _ _ h => h) (by rfl) ?_ ?_ ?_; rotate_left; (·intro w'; go_simp; with_reducible rfl); rotate_left; (·simp only [Act.put, s1, s2, s3, i64_w, i32_w]; rfl)
          refine pu HT_.out (i := 8) (N := some 87) (v := ?_) (a' := ?_) m8_9_ rfl rfl (by kernel_rfl) (fun _ _ _ h => h) (by rfl) ?_ ?_ ?_; rotate_left; (·intro w'; go_simp; with_reducible rfl); rotate_left; (·simp only [Act.put, s1, s2, s3, i64_w, i32_w]; rfl)
          refine pu HT_.out (i := 9) (N := some 88) (v := ?_) (a' := ?_) m8_10_ rfl rfl (by kernel_rfl) (fun _ _ _ h => h) (by rfl) ?_ ?_ ?_; rotate_left; (·intro w'; go_simp; with_reducible rfl); rotate_left; (·simp only [Act.put, s1, s2, s3, i64_w, i32_w]; rfl)
          refine pu HT_.out (i := 10) (N := some 89) (v := ?_) (a' := ?_) m8_11_ rfl rfl (by kernel_rfl) (fun _ _ _ h => h) (by rfl) ?_ ?_ ?_; rotate_left; (·intro w'; go_simp; with_reducible rfl); rotate_left; (·simp only [Act.put, s1, s2, s3, i64_w, i32_w]; rfl)
          refine pu HT_.out (i := 13) (N := some 92) (v := ?_) (a' := ?_) m8_12_ rfl rfl (by kernel_rfl) (fun _ _ _ h => h) (by rfl) ?_ ?_ ?_; rotate_left; (·intro w'; go_simp; with_reducible rfl); rotate_left; (·simp only [Act.put, s1, s2, s3, i64_w, i32_w]; rfl)
          refine take_ (i := 11) (N := some 90) (v := ?_) (a' := ?_) m8_13_ rfl rfl (take_ofW HT_.out HW_.out (by kernel_rfl)) (fun _ _ _ h => h) (Or.inl ⟨by rfl, ?_⟩) hHeld ?_ ?_; rotate_left; (·rintro w' ⟨s0, s1, s2, s3, s4, s5, s6, s7, s8, s9, s10, s11, s12, s13, s14⟩; go_simp; with_reducible rfl); rotate_left; (·simp only [Act.put, s1, s2, s3, i64_w, i32_w]; rfl)
          refine pu HT_.out (i := 12) (N := some 91) (v := ?_) (a' := ?_) m8_14_ rfl rfl (by kernel_rfl) (fun _ _ _ h => h) (by rfl) ?_ ?_ ?_; rotate_left; (·intro w'; go_simp; with_reducible rfl); rotate_left; (·simp only [Act.put, s1, s2, s3, i64_w, i32_w]; rfl)
          refine take_ (i := 14) (N := some 93) (v := ?_) (a' := ?_) m8_15_ rfl rfl (take_ofW HT_.out HW_.out (by kernel_rfl)) (fun _ _ _ h => h) (Or.inl ⟨by rfl, ?_⟩) hHeld ?_ ?_; rotate_left; (·rintro w' ⟨s0, s1, s2, s3, s4, s5, s6, s7, s8, s9, s10, s11, s12, s13, s14⟩; go_simp; with_reducible rfl); rotate_left; (·simp only [Act.put, s1, s2, s3, i64_w, i32_w]; rfl)
          refine pu HT_.out (i := 15) (N := some 94) (v := ?_) (a' := ?_) m8_16_ rfl rfl (by kernel_rfl) (fun _ _ _ h => h) (by rfl) ?_ ?_ ?_; rotate_left; (·intro w'; go_simp; with_reducible rfl); rotate_left; (·simp only [Act.put, s1, s2, s3, i64_w, i32_w]; rfl)
          refine pu HT_.out (i := 16) (N := some 95) (v := ?_) (a' := ?_) m8_17_ rfl rfl (by kernel_rfl) (fun _ _ _ h => h) (by rfl) ?_ ?_ ?_; rotate_left; (·intro w'; go_simp; with_reducible rfl); rotate_left; (·simp only [Act.put, s1, s2, s3, i64_w, i32_w]; rfl)
          refine pu HT_.out (i := 17) (N := some 96) (v := ?_) (a' := ?_) m8_18_ rfl rfl (by kernel_rfl) (fun _ _ _ h => h) (by rfl) ?_ ?_ ?_; rotate_left; (·intro w'; go_simp; with_reducible rfl); rotate_left; (·simp only [Act.put, s1, s2, s3, i64_w, i32_w]; rfl)
          refine pu HT_.out (i := 18) (N := some 97) (v := ?_) (a' := ?_) m8_19_ rfl rfl (by kernel_rfl) (fun _ _ _ h => h) (by rfl) ?_ ?_ ?_; rotate_left; (·intro w'; go_simp; with_reducible rfl); rotate_left; (·simp only [Act.put, s1, s2, s3, i64_w, i32_w]; rfl)
          refine pure_ (i := 19) (N := some 98) (v := undef) (a' := ?_) m8_20_ rfl rfl (any_of HT_.out (by kernel_rfl)) (fun _ _ _ h => h) (Or.inr ⟨by rfl, rfl⟩) ?_ ?_
          rotate_left
          ·simp only [Act.put, s1, s2, s3, i64_w, i32_w]
           rfl
          refine pure_ (i := 20) (N := some 99) (v := undef) (a' := ?_) m8_55_ rfl rfl (any_of HT_.out (by kernel_rfl)) (fun _ _ _ h => h) (Or.inr ⟨by rfl, rfl⟩) ?_ ?_
          rotate_left
          ·simp only [Act.put, s1, s2, s3, i64_w, i32_w]
           rfl
          refine pure_ (i := 21) (N := some 100) (v := undef) (a' := ?_) m8_56_ rfl rfl (any_of HT_.out (by kernel_rfl)) (fun _ _ _ h => h) (Or.inr ⟨by rfl, rfl⟩) ?_ ?_
          rotate_left
          ·simp only [Act.put, s1, s2, s3, i64_w, i32_w]
           rfl
          refine pure_ (i := 22) (N := some 101) (v := undef) (a' := ?_) m8_57_ rfl rfl (any_of HT_.out (by kernel_rfl)) (fun _ _ _ h => h) (Or.inr ⟨by rfl, rfl⟩) ?_ ?_
          rotate_left
          ·simp only [Act.put, s1, s2, s3, i64_w, i32_w]
           rfl
          refine pure_ (i := 23) (N := some 102) (v := undef) (a' := ?_) m8_58_ rfl rfl (any_of HT_.out (by kernel_rfl)) (fun _ _ _ h => h) (Or.inr ⟨by rfl, rfl⟩) ?_ ?_
          rotate_left
          ·simp only [Act.put, s1, s2, s3, i64_w, i32_w]
           rfl
          refine pure_ (i := 24) (N := some 103) (v := undef) (a' := ?_) m8_59_ rfl rfl (any_of HT_.out (by kernel_rfl)) (fun _ _ _ h => h) (Or.inr ⟨by rfl, rfl⟩) ?_ ?_
          rotate_left
          ·simp only [Act.put, s1, s2, s3, i64_w, i32_w]
           rfl
          refine pure_ (i := 25) (N := some 104) (v := undef) (a' := ?_) m8_26_ rfl rfl (any_of HT_.out (by kernel_rfl)) (fun _ _ _ h => h) (Or.inr ⟨by rfl, rfl⟩) ?_ ?_
          rotate_left
          ·simp only [Act.put, s1, s2, s3, i64_w, i32_w]
           rfl
          refine pure_ (i := 26) (N := some 105) (v := undef) (a' := ?_) m8_27_ rfl rfl (any_of HT_.out (by kernel_rfl)) (fun _ _ _ h => h) (Or.inr ⟨by rfl, rfl⟩) ?_ ?_
          rotate_left
          ·simp only [Act.put, s1, s2, s3, i64_w, i32_w]
           rfl
          refine pure_ (i := 27) (N := some 106) (v := undef) (a' := ?_) m8_28_ rfl rfl (any_of HT_.out (by kernel_rfl)) (fun _ _ _ h => h) (Or.inr ⟨by rfl, rfl⟩) ?_ ?_
          rotate_left
          ·simp only [Act.put, s1, s2, s3, i64_w, i32_w]
           rfl
          refine pu HT_.out (i := 28) (N := some 107) (v := ?_) (a' := ?_) m8_29_ rfl rfl (by kernel_rfl) (fun _ _ _ h => h) (by rfl) ?_ ?_ ?_; rotate_left; (·intro w'; go_simp; with_reducible rfl); rotate_left; (·simp only [Act.put, s1, s2, s3, i64_w, i32_w]; rfl)
          refine pu HT_.out (i := 29) (N := some 108) (v := ?_) (a' := ?_) m8_30_ rfl rfl (by kernel_rfl) (fun _ _ _ h => h) (by rfl) ?_ ?_ ?_; rotate_left; (·intro w'; go_simp; with_reducible rfl); rotate_left; (·simp only [Act.put, s1, s2, s3, i64_w, i32_w]; rfl)
          refine pure_ (i := 30) (N := some 109) (v := undef) (a' := ?_) m8_31_ rfl rfl (any_of HT_.out (by kernel_rfl)) (fun _ _ _ h => h) (Or.inr ⟨by rfl, rfl⟩) ?_ ?_
          rotate_left
          ·simp only [Act.put, s1, s2, s3, i64_w, i32_w]
           rfl
          refine pure_ (i := 31) (N := some 110) (v := undef) (a' := ?_) m8_50_ rfl rfl (any_of HT_.out (by kernel_rfl)) (fun _ _ _ h => h) (Or.inr ⟨by rfl, rfl⟩) ?_ ?_
          rotate_left
          ·simp only [Act.put, s1, s2, s3, i64_w, i32_w]
           rfl
          refine pure_ (i := 32) (N := some 111) (v := undef) (a' := ?_) m8_51_ rfl rfl (any_of HT_.out (by kernel_rfl)) (fun _ _ _ h => h) (Or.inr ⟨by rfl, rfl⟩) ?_ ?_
          rotate_left
          ·simp only [Act.put, s1, s2, s3, i64_w, i32_w]
           rfl
          refine pure_ (i := 33) (N := some 112) (v := undef) (a' := ?_) m8_52_ rfl rfl (any_of HT_.out (by kernel_rfl)) (fun _ _ _ h => h) (Or.inr ⟨by rfl, rfl⟩) ?_ ?_
          rotate_left
          ·simp only [Act.put, s1, s2, s3, i64_w, i32_w]
           rfl
          refine pure_ (i := 34) (N := some 113) (v := undef) (a' := ?_) m8_53_ rfl rfl (any_of HT_.out (by kernel_rfl)) (fun _ _ _ h => h) (Or.inr ⟨by rfl, rfl⟩) ?_ ?_
          rotate_left
          ·simp only [Act.put, s1, s2, s3, i64_w, i32_w]
           rfl
          refine pure_ (i := 35) (N := some 114) (v := undef) (a' := ?_) m8_54_ rfl rfl (any_of HT_.out (by kernel_rfl)) (fun _ _ _ h => h) (Or.inr ⟨by rfl, rfl⟩) ?_ ?_
          rotate_left
          ·simp only [Act.put, s1, s2, s3, i64_w, i32_w]
           rfl
          refine pure_ (i := 36) (N := some 115) (v := undef) (a' := ?_) m8_37_ rfl rfl (any_of HT_.out (by kernel_rfl)) (fun _ _ _ h => h) (Or.inr ⟨by rfl, rfl⟩) ?_ ?_
          rotate_left
          ·simp only [Act.put, s1, s2, s3, i64_w, i32_w]
           rfl
          refine pure_ (i := 37) (N := some 116) (v := undef) (a' := ?_) m8_38_ rfl rfl (any_of HT_.out (by kernel_rfl)) (fun _ _ _ h => h) (Or.inr ⟨by rfl, rfl⟩) ?_ ?_
          rotate_left
          ·simp only [Act.put, s1, s2, s3, i64_w, i32_w]
           rfl
          refine pure_ (i := 38) (N := some 117) (v := undef) (a' := ?_) m8_39_ rfl rfl (any_of HT_.out (by kernel_rfl)) (fun _ _ _ h => h) (Or.inr ⟨by rfl, rfl⟩) ?_ ?_
          rotate_left
          ·simp only [Act.put, s1, s2, s3, i64_w, i32_w]
           rfl
          refine pu HT_.out (i := 39) (N := some 118) (v := ?_) (a' := ?_) m8_40_ rfl rfl (by kernel_rfl) (fun _ _ _ h => h) (by rfl) ?_ ?_ ?_; rotate_left; (·intro w'; go_simp; with_reducible rfl); rotate_left; (·simp only [Act.put, s1, s2, s3, i64_w, i32_w]; rfl)
          refine pu HT_.out (i := 40) (N := some 119) (v := ?_) (a' := ?_) m8_41_ rfl rfl (by kernel_rfl) (fun _ _ _ h => h) (by rfl) ?_ ?_ ?_; rotate_left; (·intro w'; go_simp; with_reducible rfl); rotate_left; (·simp only [Act.put, s1, s2, s3, i64_w, i32_w]; rfl)
          refine pure_ (i := 41) (N := some 120) (v := undef) (a' := ?_) m8_42_ rfl rfl (any_of HT_.out (by kernel_rfl)) (fun _ _ _ h => h) (Or.inr ⟨by rfl, rfl⟩) ?_ ?_
          rotate_left
          ·simp only [Act.put, s1, s2, s3, i64_w, i32_w]
           rfl
          refine pure_ (i := 42) (N := some 121) (v := undef) (a' := ?_) m8_43_ rfl rfl (any_of HT_.out (by kernel_rfl)) (fun _ _ _ h => h) (Or.inr ⟨by rfl, rfl⟩) ?_ ?_
          rotate_left
          ·simp only [Act.put, s1, s2, s3, i64_w, i32_w]
           rfl
          refine pure_ (i := 43) (N := some 122) (v := undef) (a' := ?_) m8_44_ rfl rfl (any_of HT_.out (by kernel_rfl)) (fun _ _ _ h => h) (Or.inr ⟨by rfl, rfl⟩) ?_ ?_
          rotate_left
          ·simp only [Act.put, s1, s2, s3, i64_w, i32_w]
           rfl
          refine pure_ (i := 44) (N := some 123) (v := undef) (a' := ?_) m8_45_ rfl rfl (any_of HT_.out (by kernel_rfl)) (fun _ _ _ h => h) (Or.inr ⟨by rfl, rfl⟩) ?_ ?_
          rotate_left
          ·simp only [Act.put, s1, s2, s3, i64_w, i32_w]
           rfl
          refine pure_ (i := 45) (N := some 124) (v := undef) (a' := ?_) m8_46_ rfl rfl (any_of HT_.out (by kernel_rfl)) (fun _ _ _ h => h) (Or.inr ⟨by rfl, rfl⟩) ?_ ?_
          rotate_left
          ·simp only [Act.put, s1, s2, s3, i64_w, i32_w]
           rfl
          refine pure_ (i := 46) (N := some 125) (v := undef) (a' := ?_) m8_47_ rfl rfl (any_of HT_.out (by kernel_rfl)) (fun _ _ _ h => h) (Or.inr ⟨by rfl, rfl⟩) ?_ ?_
          rotate_left
          ·simp only [Act.put, s1, s2, s3, i64_w, i32_w]
           rfl
          refine pu HT_.out (i := 47) (N := some 126) (v := ?_) (a' := ?_) m8_48_ rfl rfl (by kernel_rfl) (fun _ _ _ h => h) (by rfl) ?_ ?_ ?_; rotate_left; (·intro w'; go_simp; with_reducible rfl); rotate_left; (·simp only [Act.put, s1, s2, s3, i64_w, i32_w]; rfl)
          refine pu HT_.out (i := 48) (N := some 10) (v := ?_) (a' := ?_) m8_49_ rfl rfl (by kernel_rfl) (fun _ _ _ h => h) (by rfl) ?_ ?_ ?_; rotate_left; (·intro w'; go_simp; with_reducible rfl); rotate_left; (·simp only [Act.put, s1, s2, s3, i64_w, i32_w]; rfl)
          refine done_ (done_of HT_.out (by kernel_rfl)) ?_
          try go_wp2
          go_ret
          exact ⟨by first | rfl | (simp [errW_none, errW_some] <;> rfl) | (simp [*, errW_none, errW_some] <;> rfl), by repeat first | refine below_set ?_ GE356.out | refine below_set ?_ GE363.out | refine below_set ?_ GE376.out | refine below_set ?_ GE383.out | refine below_set ?_ GE392.out | refine below_set ?_ GE399.out | exact HB.out | apply below_alloc | apply pw_below_drewN | apply below_drew1⟩
        ·rw [if_neg c59] at H
         have c59b0 : (t387 == t358) = false := beq_eq_false_iff_ne.mpr c59
         have c59b1 : (t387 != t358) = true := bne_iff_ne.mpr c59
         obtain rfl := Option.some.inj H
         have hnb178 := NB383_356.out
         have hnc178 := NB356_383.out
         have hnb179 := NB383_363.out
         have hnc179 := NB363_383.out
         have hnb180 := NB383_376.out
         have hnc180 := NB376_383.out
         have hcz181_0 : wc.cell? ⟨gb383, 0, none⟩ = some (.string t377) := (blk_cell BK383.out 0).trans rfl
         have hcz181_1 : wc.cell? ⟨gb383, 1, none⟩ = some (.int .i64 t378) := (blk_cell BK383.out 1).trans rfl
         have hcz181_2 : wc.cell? ⟨gb383, 2, none⟩ = some (.int .i64 t379) := (blk_cell BK383.out 2).trans rfl
         have hcz181_3 : wc.cell? ⟨gb383, 3, none⟩ = some (.int .i64 t380) := (blk_cell BK383.out 3).trans rfl
         have hcz181_4 : wc.cell? ⟨gb383, 4, none⟩ = some (.int .i64 t381) := (blk_cell BK383.out 4).trans rfl
         have hfz181_0 := blk_frozen BK383.out 0
         have hfz181_1 := blk_frozen BK383.out 1
         have hfz181_2 := blk_frozen BK383.out 2
         have hfz181_3 := blk_frozen BK383.out 3
         have hfz181_4 := blk_frozen BK383.out 4
         try go_wp2_with (first | ((with_reducible refine gate_callee (f := 24) rfl ?_); refine goesL_ (some 66) rfl rfl Tryd.func24 (by kernel_rfl) rfl #[.agg #[.string t377, .int .i64 t378, .int .i64 t379, .int .i64 t380, .int .i64 t381], .int .i32 a2] rfl (by (try simp only [List.map_toArray, List.map_cons, List.map_nil]); first | done | rfl | (simp only [List.length_drop, List.length_take]; rfl)) ?_; (with_reducible refine (cell_Mark.calls kj10 t377 t378 t379 t380 t381 a2 t386 t387 t388 t389 t390 t391 _ A54.out).mono ?_); rintro e w182 ⟨rfl, hb⟩; refine ⟨_, rfl, ?_⟩; replace BK356 := Aside0.mk (bb hb BK356.out); replace BK363 := Aside0.mk (bb hb BK363.out); replace BK376 := Aside0.mk (bb hb BK376.out); replace BK383 := Aside0.mk (bb hb BK383.out); replace HB := Aside0.mk (below_step (by repeat first | refine below_set ?_ GE356.out | refine below_set ?_ GE363.out | refine below_set ?_ GE376.out | refine below_set ?_ GE383.out | exact HB.out | apply below_alloc | apply pw_below_drewN | apply below_drew1) hb); (try clear hb); (try clear hb2); (try clear hk); (try clear hi)) | ((with_reducible refine gate_dst (N := 17) rfl ?_); (try (refine gate_guard (by rfl) ?_; dsimp only)); refine box_event ?hg (N := 17) ?hd (cs := #[.string (⟨#[]⟩ : ByteArray), .int .i64 0, .int .i64 0, .int .i64 0, .int .i64 0]) (t := 40) ?hr ?_; (case hd => rfl); (case hg => rfl); (case hr => first | (go_simp; done) | (go_simp; rfl)); intro gb392 hg w183 hbox hb; have BK392 := Aside0.mk (hbox); have GW392 := Aside0.mk ((by rw [hg]; exact (below_size (by repeat first | refine below_set ?_ GE356.out | refine below_set ?_ GE363.out | refine below_set ?_ GE376.out | refine below_set ?_ GE383.out | exact HB.out | apply below_alloc | apply pw_below_drewN | apply below_drew1)) : w.heap.size ≤ gb392)); have GE392 := GW392; have NB356_392 := Aside0.mk ((by rw [hg]; exact lt1 BK356.out : gb356 ≠ gb392)); have NB392_356 := Aside0.mk ((by rw [hg]; exact gt1 BK356.out : gb392 ≠ gb356)); have NB363_392 := Aside0.mk ((by rw [hg]; exact lt1 BK363.out : gb363 ≠ gb392)); have NB392_363 := Aside0.mk ((by rw [hg]; exact gt1 BK363.out : gb392 ≠ gb363)); have NB376_392 := Aside0.mk ((by rw [hg]; exact lt1 BK376.out : gb376 ≠ gb392)); have NB392_376 := Aside0.mk ((by rw [hg]; exact gt1 BK376.out : gb392 ≠ gb376)); have NB383_392 := Aside0.mk ((by rw [hg]; exact lt1 BK383.out : gb383 ≠ gb392)); have NB392_383 := Aside0.mk ((by rw [hg]; exact gt1 BK383.out : gb392 ≠ gb383)); replace BK356 := Aside0.mk (bb hb BK356.out); replace BK363 := Aside0.mk (bb hb BK363.out); replace BK376 := Aside0.mk (bb hb BK376.out); replace BK383 := Aside0.mk (bb hb BK383.out); replace HB := Aside0.mk (below_step (by repeat first | refine below_set ?_ GE356.out | refine below_set ?_ GE363.out | refine below_set ?_ GE376.out | refine below_set ?_ GE383.out | exact HB.out | apply below_alloc | apply pw_below_drewN | apply below_drew1) hb); clear hb hbox hg; have hnb184 := NB392_356.out; have hnc184 := NB356_392.out; have hnb185 := NB392_363.out; have hnc185 := NB363_392.out; have hnb186 := NB392_376.out; have hnc186 := NB376_392.out; have hnb187 := NB392_383.out; have hnc187 := NB383_392.out; obtain ⟨hcz188_0, hcz188_1, hcz188_2, hcz188_3, hcz188_4, hfz188_0, hfz188_1, hfz188_2, hfz188_3, hfz188_4⟩ := cz5 BK392.out) | ((with_reducible refine gate_callee (f := 24) rfl ?_); refine goesL_ (some 76) rfl rfl Tryd.func24 (by kernel_rfl) rfl #[.agg #[.string t386, .int .i64 t387, .int .i64 t388, .int .i64 t389, .int .i64 t390], .int .i32 a3] rfl (by (try simp only [List.map_toArray, List.map_cons, List.map_nil]); first | done | rfl | (simp only [List.length_drop, List.length_take]; rfl)) ?_; (with_reducible refine (cell_Mark.calls kj10 t386 t387 t388 t389 t390 a3 t393 t394 t395 t396 t397 t398 _ A56.out).mono ?_); rintro e w189 ⟨rfl, hb⟩; refine ⟨_, rfl, ?_⟩; replace BK356 := Aside0.mk (bb hb (far5 NB356_392.out BK356.out)); replace BK363 := Aside0.mk (bb hb (far5 NB363_392.out BK363.out)); replace BK376 := Aside0.mk (bb hb (far5 NB376_392.out BK376.out)); replace BK383 := Aside0.mk (bb hb (far5 NB383_392.out BK383.out)); replace BK392 := Aside0.mk (bb hb (put5 BK392.out)); replace HB := Aside0.mk (below_step (by repeat first | refine below_set ?_ GE356.out | refine below_set ?_ GE363.out | refine below_set ?_ GE376.out | refine below_set ?_ GE383.out | refine below_set ?_ GE392.out | exact HB.out | apply below_alloc | apply pw_below_drewN | apply below_drew1) hb); (try clear hb); (try clear hb2); (try clear hk); (try clear hi)) | ((with_reducible refine gate_dst (N := 19) rfl ?_); (try (refine gate_guard (by rfl) ?_; dsimp only)); refine box_event ?hg (N := 19) ?hd (cs := #[.string (⟨#[]⟩ : ByteArray), .int .i64 0, .int .i64 0, .int .i64 0, .int .i64 0]) (t := 40) ?hr ?_; (case hd => rfl); (case hg => rfl); (case hr => first | (go_simp; done) | (go_simp; rfl)); intro gb399 hg w190 hbox hb; have BK399 := Aside0.mk (hbox); have GW399 := Aside0.mk ((by rw [hg]; exact (below_size (by repeat first | refine below_set ?_ GE356.out | refine below_set ?_ GE363.out | refine below_set ?_ GE376.out | refine below_set ?_ GE383.out | refine below_set ?_ GE392.out | exact HB.out | apply below_alloc | apply pw_below_drewN | apply below_drew1)) : w.heap.size ≤ gb399)); have GE399 := GW399; have NB356_399 := Aside0.mk ((by rw [hg]; exact lt1 BK356.out : gb356 ≠ gb399)); have NB399_356 := Aside0.mk ((by rw [hg]; exact gt1 BK356.out : gb399 ≠ gb356)); have NB363_399 := Aside0.mk ((by rw [hg]; exact lt1 BK363.out : gb363 ≠ gb399)); have NB399_363 := Aside0.mk ((by rw [hg]; exact gt1 BK363.out : gb399 ≠ gb363)); have NB376_399 := Aside0.mk ((by rw [hg]; exact lt1 BK376.out : gb376 ≠ gb399)); have NB399_376 := Aside0.mk ((by rw [hg]; exact gt1 BK376.out : gb399 ≠ gb376)); have NB383_399 := Aside0.mk ((by rw [hg]; exact lt1 BK383.out : gb383 ≠ gb399)); have NB399_383 := Aside0.mk ((by rw [hg]; exact gt1 BK383.out : gb399 ≠ gb383)); have NB392_399 := Aside0.mk ((by rw [hg]; exact lt1 BK392.out : gb392 ≠ gb399)); have NB399_392 := Aside0.mk ((by rw [hg]; exact gt1 BK392.out : gb399 ≠ gb392)); replace BK356 := Aside0.mk (bb hb BK356.out); replace BK363 := Aside0.mk (bb hb BK363.out); replace BK376 := Aside0.mk (bb hb BK376.out); replace BK383 := Aside0.mk (bb hb BK383.out); replace BK392 := Aside0.mk (bb hb BK392.out); replace HB := Aside0.mk (below_step (by repeat first | refine below_set ?_ GE356.out | refine below_set ?_ GE363.out | refine below_set ?_ GE376.out | refine below_set ?_ GE383.out | refine below_set ?_ GE392.out | exact HB.out | apply below_alloc | apply pw_below_drewN | apply below_drew1) hb); clear hb hbox hg; have hnb191 := NB399_356.out; have hnc191 := NB356_399.out; have hnb192 := NB399_363.out; have hnc192 := NB363_399.out; have hnb193 := NB399_376.out; have hnc193 := NB376_399.out; have hnb194 := NB399_383.out; have hnc194 := NB383_399.out; have hnb195 := NB399_392.out; have hnc195 := NB392_399.out; obtain ⟨hcz196_0, hcz196_1, hcz196_2, hcz196_3, hcz196_4, hfz196_0, hfz196_1, hfz196_2, hfz196_3, hfz196_4⟩ := cz5 BK399.out))
         have n0_ : Aside0 ((((((w190.setCell ⟨gb399, 0, none⟩ (.string t393)).setCell ⟨gb399, 1, none⟩ (.int .i64 t394)).setCell ⟨gb399, 2, none⟩ (.int .i64 t395)).setCell ⟨gb399, 3, none⟩ (.int .i64 t396)).setCell ⟨gb399, 4, none⟩ (.int .i64 t397)).heap[gb356]? = some (.cells #[.int .i64 a4_0, .int .i64 a4_1, .int .i64 a4_2] 38 (0, 0))) := ⟨by exact (far5 NB356_399.out BK356.out)⟩
         have n1_ : Aside0 ((((((w190.setCell ⟨gb399, 0, none⟩ (.string t393)).setCell ⟨gb399, 1, none⟩ (.int .i64 t394)).setCell ⟨gb399, 2, none⟩ (.int .i64 t395)).setCell ⟨gb399, 3, none⟩ (.int .i64 t396)).setCell ⟨gb399, 4, none⟩ (.int .i64 t397)).heap[gb363]? = some (.cells #[.string t357, .int .i64 t358, .int .i64 t359, .int .i64 t360, .int .i64 t361] 40 (0, 0))) := ⟨by exact (far5 NB363_399.out BK363.out)⟩
         have n2_ : Aside0 ((((((w190.setCell ⟨gb399, 0, none⟩ (.string t393)).setCell ⟨gb399, 1, none⟩ (.int .i64 t394)).setCell ⟨gb399, 2, none⟩ (.int .i64 t395)).setCell ⟨gb399, 3, none⟩ (.int .i64 t396)).setCell ⟨gb399, 4, none⟩ (.int .i64 t397)).heap[gb376]? = some (.cells #[.string t370, .int .i64 t371, .int .i64 t372, .int .i64 t373, .int .i64 t374] 40 (0, 0))) := ⟨by exact (far5 NB376_399.out BK376.out)⟩
         have n3_ : Aside0 ((((((w190.setCell ⟨gb399, 0, none⟩ (.string t393)).setCell ⟨gb399, 1, none⟩ (.int .i64 t394)).setCell ⟨gb399, 2, none⟩ (.int .i64 t395)).setCell ⟨gb399, 3, none⟩ (.int .i64 t396)).setCell ⟨gb399, 4, none⟩ (.int .i64 t397)).heap[gb383]? = some (.cells #[.string t377, .int .i64 t378, .int .i64 t379, .int .i64 t380, .int .i64 t381] 40 (0, 0))) := ⟨by exact (far5 NB383_399.out BK383.out)⟩
         have n4_ : Aside0 ((((((w190.setCell ⟨gb399, 0, none⟩ (.string t393)).setCell ⟨gb399, 1, none⟩ (.int .i64 t394)).setCell ⟨gb399, 2, none⟩ (.int .i64 t395)).setCell ⟨gb399, 3, none⟩ (.int .i64 t396)).setCell ⟨gb399, 4, none⟩ (.int .i64 t397)).heap[gb392]? = some (.cells #[.string t386, .int .i64 t387, .int .i64 t388, .int .i64 t389, .int .i64 t390] 40 (0, 0))) := ⟨by exact (far5 NB392_399.out BK392.out)⟩
         have n5_ : Aside0 ((((((w190.setCell ⟨gb399, 0, none⟩ (.string t393)).setCell ⟨gb399, 1, none⟩ (.int .i64 t394)).setCell ⟨gb399, 2, none⟩ (.int .i64 t395)).setCell ⟨gb399, 3, none⟩ (.int .i64 t396)).setCell ⟨gb399, 4, none⟩ (.int .i64 t397)).heap[gb399]? = some (.cells #[.string t393, .int .i64 t394, .int .i64 t395, .int .i64 t396, .int .i64 t397] 40 (0, 0))) := ⟨by exact (put5 BK399.out)⟩
         have n6_ : Aside0 (Below w.heap.size w (((((w190.setCell ⟨gb399, 0, none⟩ (.string t393)).setCell ⟨gb399, 1, none⟩ (.int .i64 t394)).setCell ⟨gb399, 2, none⟩ (.int .i64 t395)).setCell ⟨gb399, 3, none⟩ (.int .i64 t396)).setCell ⟨gb399, 4, none⟩ (.int .i64 t397))) := ⟨by repeat first | refine below_set ?_ GE356.out | refine below_set ?_ GE363.out | refine below_set ?_ GE376.out | refine below_set ?_ GE383.out | refine below_set ?_ GE392.out | refine below_set ?_ GE399.out | exact HB.out | apply below_alloc | apply pw_below_drewN | apply below_drew1⟩
         (try clear BK356)
         (try clear BK363)
         (try clear BK376)
         (try clear BK383)
         (try clear BK392)
         (try clear BK399)
         (try clear HB)
         generalize (((((w190.setCell ⟨gb399, 0, none⟩ (.string t393)).setCell ⟨gb399, 1, none⟩ (.int .i64 t394)).setCell ⟨gb399, 2, none⟩ (.int .i64 t395)).setCell ⟨gb399, 3, none⟩ (.int .i64 t396)).setCell ⟨gb399, 4, none⟩ (.int .i64 t397)) = w197 at n0_ n1_ n2_ n3_ n4_ n5_ n6_ ⊢
         have BK356 := n0_
         have BK363 := n1_
         have BK376 := n2_
         have BK383 := n3_
         have BK392 := n4_
         have BK399 := n5_
         have HB := n6_
         clear n0_ n1_ n2_ n3_ n4_ n5_ n6_
         replace BK356 := Aside0.mk (blk_drew BK356.out); replace BK363 := Aside0.mk (blk_drew BK363.out); replace BK376 := Aside0.mk (blk_drew BK376.out); replace BK383 := Aside0.mk (blk_drew BK383.out); replace BK392 := Aside0.mk (blk_drew BK392.out); replace BK399 := Aside0.mk (blk_drew BK399.out); replace HB := Aside0.mk (below_drew1 HB.out)
         refine start_ (n := 49) (S := fun w' => w'.cell? ⟨gb392, 0, none⟩ = some (.string t386) ∧ w'.cell? ⟨gb392, 1, none⟩ = some (.int .i64 t387) ∧ w'.cell? ⟨gb392, 2, none⟩ = some (.int .i64 t388) ∧ w'.cell? ⟨gb392, 3, none⟩ = some (.int .i64 t389) ∧ w'.cell? ⟨gb392, 4, none⟩ = some (.int .i64 t390) ∧ w'.cell? ⟨gb363, 0, none⟩ = some (.string t357) ∧ w'.cell? ⟨gb363, 1, none⟩ = some (.int .i64 t358) ∧ w'.cell? ⟨gb363, 2, none⟩ = some (.int .i64 t359) ∧ w'.cell? ⟨gb363, 3, none⟩ = some (.int .i64 t360) ∧ w'.cell? ⟨gb363, 4, none⟩ = some (.int .i64 t361)) (ds := []) m8_0_ (by kernel_rfl) rfl rfl ⟨(blk_cell BK392.out 0).trans rfl, (blk_cell BK392.out 1).trans rfl, (blk_cell BK392.out 2).trans rfl, (blk_cell BK392.out 3).trans rfl, (blk_cell BK392.out 4).trans rfl, (blk_cell BK363.out 0).trans rfl, (blk_cell BK363.out 1).trans rfl, (blk_cell BK363.out 2).trans rfl, (blk_cell BK363.out 3).trans rfl, (blk_cell BK363.out 4).trans rfl⟩ (fun hHeld => ?_); refine with_tabW backseatlaw04_CellMarks.tab14 backseatlaw04_CellMarks.bits14 (fun HT_ HW_ => ?_)
         generalize w197.drew = w198 at BK356 BK363 BK376 BK383 BK392 BK399 HB hHeld ⊢
         refine take_ (i := 0) (N := some 79) (v := ?_) (a' := ?_) m8_1_ rfl rfl (take_ofW HT_.out HW_.out (by kernel_rfl)) (fun _ _ _ h => h) (Or.inl ⟨by rfl, ?_⟩) hHeld ?_ ?_; rotate_left; (·rintro w' ⟨s0, s1, s2, s3, s4, s5, s6, s7, s8, s9⟩; go_simp; with_reducible rfl); rotate_left; (·simp only [Act.put, s1, s2, s3, i64_w, i32_w]; rfl)
         refine one_ (i := 1) (N := some 80) m8_2_ rfl rfl (one_of HT_.out (by kernel_rfl)) (by decide) (fun K hK => ?_)
         refine goes_ Tryd.func25 (by kernel_rfl) rfl #[.agg #[.string t386, .int .i64 t387, .int .i64 t388, .int .i64 t389, .int .i64 t390]] (by rfl) rfl rfl (by (try simp only [List.map_toArray, List.map_cons, List.map_nil]); first | done | rfl | (simp only [List.length_drop, List.length_take]; rfl)) ?_
         with_reducible refine (cell_Right.calls kj10 t386 t387 t388 t389 t390 true _ A57.out).mono ?_
         rintro e w199 ⟨rfl, hb⟩
         refine ⟨_, rfl, ?_⟩
         replace BK356 := Aside0.mk (bb hb BK356.out); replace BK363 := Aside0.mk (bb hb BK363.out); replace BK376 := Aside0.mk (bb hb BK376.out); replace BK383 := Aside0.mk (bb hb BK383.out); replace BK392 := Aside0.mk (bb hb BK392.out); replace BK399 := Aside0.mk (bb hb BK399.out); replace HB := Aside0.mk (below_step (by repeat first | refine below_set ?_ GE356.out | refine below_set ?_ GE363.out | refine below_set ?_ GE376.out | refine below_set ?_ GE383.out | refine below_set ?_ GE392.out | refine below_set ?_ GE399.out | exact HB.out | apply below_alloc | apply pw_below_drewN | apply below_drew1) hb)
         (try clear hb)
         (try clear hb2)
         (try clear hk)
         (try clear hi)
         refine hK.out _ _ ⟨(blk_cell BK392.out 0).trans rfl, (blk_cell BK392.out 1).trans rfl, (blk_cell BK392.out 2).trans rfl, (blk_cell BK392.out 3).trans rfl, (blk_cell BK392.out 4).trans rfl, (blk_cell BK363.out 0).trans rfl, (blk_cell BK363.out 1).trans rfl, (blk_cell BK363.out 2).trans rfl, (blk_cell BK363.out 3).trans rfl, (blk_cell BK363.out 4).trans rfl⟩ (fun hHeld => ?_)
         clear hK K
         refine norm_ (a' := ?_) ?_ ?_
         rotate_left
         ·show Act.put _ (some 80) _ = _
          simp only [Act.put, s1, s2, s3, i64_w, i32_w]
          rfl
         refine pu HT_.out (i := 2) (N := some 81) (v := ?_) (a' := ?_) m8_3_ rfl rfl (by kernel_rfl) (fun _ _ _ h => h) (by rfl) ?_ ?_ ?_; rotate_left; (·intro w'; go_simp; with_reducible rfl); rotate_left; (·simp only [Act.put, s1, s2, s3, i64_w, i32_w]; rfl)
         refine pu HT_.out (i := 3) (N := some 82) (v := ?_) (a' := ?_) m8_4_ rfl rfl (by kernel_rfl) (fun _ _ _ h => h) (by rfl) ?_ ?_ ?_; rotate_left; (·intro w'; go_simp; with_reducible rfl); rotate_left; (·simp only [Act.put, s1, s2, s3, i64_w, i32_w]; rfl)
         refine pu HT_.out (i := 5) (N := some 84) (v := ?_) (a' := ?_) m8_5_ rfl rfl (by kernel_rfl) (fun _ _ _ h => h) (by rfl) ?_ ?_ ?_; rotate_left; (·intro w'; go_simp; with_reducible rfl); rotate_left; (·simp only [Act.put, s1, s2, s3, i64_w, i32_w]; rfl)
         refine take_ (i := 4) (N := some 83) (v := ?_) (a' := ?_) m8_6_ rfl rfl (take_ofW HT_.out HW_.out (by kernel_rfl)) (fun _ _ _ h => h) (Or.inl ⟨by rfl, ?_⟩) hHeld ?_ ?_; rotate_left; (·rintro w' ⟨s0, s1, s2, s3, s4, s5, s6, s7, s8, s9⟩; go_simp; with_reducible rfl); rotate_left; (·simp only [Act.put, s1, s2, s3, i64_w, i32_w]; rfl)
         refine take_ (i := 6) (N := some 85) (v := ?_) (a' := ?_) m8_7_ rfl rfl (take_ofW HT_.out HW_.out (by kernel_rfl)) (fun _ _ _ h => h) (Or.inl ⟨by rfl, ?_⟩) hHeld ?_ ?_; rotate_left; (·rintro w' ⟨s0, s1, s2, s3, s4, s5, s6, s7, s8, s9⟩; go_simp; with_reducible rfl); rotate_left; (·simp only [Act.put, s1, s2, s3, i64_w, i32_w]; rfl)
         refine pu HT_.out (i := 7) (N := some 86) (v := ?_) (a' := ?_) m8_8_ rfl rfl (by kernel_rfl) (fun _ _ _ h => h) (by rfl) ?_ ?_ ?_; rotate_left; (·intro w'; go_simp; with_reducible rfl); rotate_left; (·simp only [Act.put, s1, s2, s3, i64_w, i32_w]; rfl)
         refine pu HT_.out (i := 8) (N := some 87) (v := ?_) (a' := ?_) m8_9_ rfl rfl (by kernel_rfl) (fun _ _ _ h => h) (by rfl) ?_ ?_ ?_; rotate_left; (·intro w'; go_simp; with_reducible rfl); rotate_left; (·simp only [Act.put, s1, s2, s3, i64_w, i32_w]; rfl)
         refine pu HT_.out (i := 9) (N := some 88) (v := ?_) (a' := ?_) m8_10_ rfl rfl (by kernel_rfl) (fun _ _ _ h => h) (by rfl) ?_ ?_ ?_; rotate_left; (·intro w'; go_simp; with_reducible rfl); rotate_left; (·simp only [Act.put, s1, s2, s3, i64_w, i32_w]; rfl)
         refine pure_ (i := 10) (N := some 89) (v := undef) (a' := ?_) m8_11_ rfl rfl (any_of HT_.out (by kernel_rfl)) (fun _ _ _ h => h) (Or.inr ⟨by rfl, rfl⟩) ?_ ?_
         rotate_left
         ·simp only [Act.put, s1, s2, s3, i64_w, i32_w]
          rfl
         refine pure_ (i := 11) (N := some 90) (v := undef) (a' := ?_) m8_60_ rfl rfl (any_of HT_.out (by kernel_rfl)) (fun _ _ _ h => h) (Or.inr ⟨by rfl, rfl⟩) ?_ ?_
         rotate_left
         ·simp only [Act.put, s1, s2, s3, i64_w, i32_w]
          rfl
         refine pure_ (i := 12) (N := some 91) (v := undef) (a' := ?_) m8_61_ rfl rfl (any_of HT_.out (by kernel_rfl)) (fun _ _ _ h => h) (Or.inr ⟨by rfl, rfl⟩) ?_ ?_
         rotate_left
         ·simp only [Act.put, s1, s2, s3, i64_w, i32_w]
          rfl
         refine pure_ (i := 13) (N := some 92) (v := undef) (a' := ?_) m8_14_ rfl rfl (any_of HT_.out (by kernel_rfl)) (fun _ _ _ h => h) (Or.inr ⟨by rfl, rfl⟩) ?_ ?_
         rotate_left
         ·simp only [Act.put, s1, s2, s3, i64_w, i32_w]
          rfl
         refine pure_ (i := 14) (N := some 93) (v := undef) (a' := ?_) m8_15_ rfl rfl (any_of HT_.out (by kernel_rfl)) (fun _ _ _ h => h) (Or.inr ⟨by rfl, rfl⟩) ?_ ?_
         rotate_left
         ·simp only [Act.put, s1, s2, s3, i64_w, i32_w]
          rfl
         refine pure_ (i := 15) (N := some 94) (v := undef) (a' := ?_) m8_16_ rfl rfl (any_of HT_.out (by kernel_rfl)) (fun _ _ _ h => h) (Or.inr ⟨by rfl, rfl⟩) ?_ ?_
         rotate_left
         ·simp only [Act.put, s1, s2, s3, i64_w, i32_w]
          rfl
         refine pure_ (i := 16) (N := some 95) (v := undef) (a' := ?_) m8_17_ rfl rfl (any_of HT_.out (by kernel_rfl)) (fun _ _ _ h => h) (Or.inr ⟨by rfl, rfl⟩) ?_ ?_
         rotate_left
         ·simp only [Act.put, s1, s2, s3, i64_w, i32_w]
          rfl
         refine pu HT_.out (i := 17) (N := some 96) (v := ?_) (a' := ?_) m8_18_ rfl rfl (by kernel_rfl) (fun _ _ _ h => h) (by rfl) ?_ ?_ ?_; rotate_left; (·intro w'; go_simp; with_reducible rfl); rotate_left; (·simp only [Act.put, s1, s2, s3, i64_w, i32_w]; rfl)
         refine pu HT_.out (i := 18) (N := some 97) (v := ?_) (a' := ?_) m8_19_ rfl rfl (by kernel_rfl) (fun _ _ _ h => h) (by rfl) ?_ ?_ ?_; rotate_left; (·intro w'; go_simp; with_reducible rfl); rotate_left; (·simp only [Act.put, s1, s2, s3, i64_w, i32_w]; rfl)
         refine pure_ (i := 19) (N := some 98) (v := undef) (a' := ?_) m8_20_ rfl rfl (any_of HT_.out (by kernel_rfl)) (fun _ _ _ h => h) (Or.inr ⟨by rfl, rfl⟩) ?_ ?_
         rotate_left
         ·simp only [Act.put, s1, s2, s3, i64_w, i32_w]
          rfl
         refine pure_ (i := 20) (N := some 99) (v := undef) (a' := ?_) m8_55_ rfl rfl (any_of HT_.out (by kernel_rfl)) (fun _ _ _ h => h) (Or.inr ⟨by rfl, rfl⟩) ?_ ?_
         rotate_left
         ·simp only [Act.put, s1, s2, s3, i64_w, i32_w]
          rfl
         refine pure_ (i := 21) (N := some 100) (v := undef) (a' := ?_) m8_56_ rfl rfl (any_of HT_.out (by kernel_rfl)) (fun _ _ _ h => h) (Or.inr ⟨by rfl, rfl⟩) ?_ ?_
         rotate_left
         ·simp only [Act.put, s1, s2, s3, i64_w, i32_w]
          rfl
         refine pure_ (i := 22) (N := some 101) (v := undef) (a' := ?_) m8_57_ rfl rfl (any_of HT_.out (by kernel_rfl)) (fun _ _ _ h => h) (Or.inr ⟨by rfl, rfl⟩) ?_ ?_
         rotate_left
         ·simp only [Act.put, s1, s2, s3, i64_w, i32_w]
          rfl
         refine pure_ (i := 23) (N := some 102) (v := undef) (a' := ?_) m8_58_ rfl rfl (any_of HT_.out (by kernel_rfl)) (fun _ _ _ h => h) (Or.inr ⟨by rfl, rfl⟩) ?_ ?_
         rotate_left
         ·simp only [Act.put, s1, s2, s3, i64_w, i32_w]
          rfl
         refine pure_ (i := 24) (N := some 103) (v := undef) (a' := ?_) m8_59_ rfl rfl (any_of HT_.out (by kernel_rfl)) (fun _ _ _ h => h) (Or.inr ⟨by rfl, rfl⟩) ?_ ?_
         rotate_left
         ·simp only [Act.put, s1, s2, s3, i64_w, i32_w]
          rfl
         refine pure_ (i := 25) (N := some 104) (v := undef) (a' := ?_) m8_26_ rfl rfl (any_of HT_.out (by kernel_rfl)) (fun _ _ _ h => h) (Or.inr ⟨by rfl, rfl⟩) ?_ ?_
         rotate_left
         ·simp only [Act.put, s1, s2, s3, i64_w, i32_w]
          rfl
         refine pure_ (i := 26) (N := some 105) (v := undef) (a' := ?_) m8_27_ rfl rfl (any_of HT_.out (by kernel_rfl)) (fun _ _ _ h => h) (Or.inr ⟨by rfl, rfl⟩) ?_ ?_
         rotate_left
         ·simp only [Act.put, s1, s2, s3, i64_w, i32_w]
          rfl
         refine pure_ (i := 27) (N := some 106) (v := undef) (a' := ?_) m8_28_ rfl rfl (any_of HT_.out (by kernel_rfl)) (fun _ _ _ h => h) (Or.inr ⟨by rfl, rfl⟩) ?_ ?_
         rotate_left
         ·simp only [Act.put, s1, s2, s3, i64_w, i32_w]
          rfl
         refine pu HT_.out (i := 28) (N := some 107) (v := ?_) (a' := ?_) m8_29_ rfl rfl (by kernel_rfl) (fun _ _ _ h => h) (by rfl) ?_ ?_ ?_; rotate_left; (·intro w'; go_simp; with_reducible rfl); rotate_left; (·simp only [Act.put, s1, s2, s3, i64_w, i32_w]; rfl)
         refine pu HT_.out (i := 29) (N := some 108) (v := ?_) (a' := ?_) m8_30_ rfl rfl (by kernel_rfl) (fun _ _ _ h => h) (by rfl) ?_ ?_ ?_; rotate_left; (·intro w'; go_simp; with_reducible rfl); rotate_left; (·simp only [Act.put, s1, s2, s3, i64_w, i32_w]; rfl)
         refine pure_ (i := 30) (N := some 109) (v := undef) (a' := ?_) m8_31_ rfl rfl (any_of HT_.out (by kernel_rfl)) (fun _ _ _ h => h) (Or.inr ⟨by rfl, rfl⟩) ?_ ?_
         rotate_left
         ·simp only [Act.put, s1, s2, s3, i64_w, i32_w]
          rfl
         refine pure_ (i := 31) (N := some 110) (v := undef) (a' := ?_) m8_50_ rfl rfl (any_of HT_.out (by kernel_rfl)) (fun _ _ _ h => h) (Or.inr ⟨by rfl, rfl⟩) ?_ ?_
         rotate_left
         ·simp only [Act.put, s1, s2, s3, i64_w, i32_w]
          rfl
         refine pure_ (i := 32) (N := some 111) (v := undef) (a' := ?_) m8_51_ rfl rfl (any_of HT_.out (by kernel_rfl)) (fun _ _ _ h => h) (Or.inr ⟨by rfl, rfl⟩) ?_ ?_
         rotate_left
         ·simp only [Act.put, s1, s2, s3, i64_w, i32_w]
          rfl
         refine pure_ (i := 33) (N := some 112) (v := undef) (a' := ?_) m8_52_ rfl rfl (any_of HT_.out (by kernel_rfl)) (fun _ _ _ h => h) (Or.inr ⟨by rfl, rfl⟩) ?_ ?_
         rotate_left
         ·simp only [Act.put, s1, s2, s3, i64_w, i32_w]
          rfl
         refine pure_ (i := 34) (N := some 113) (v := undef) (a' := ?_) m8_53_ rfl rfl (any_of HT_.out (by kernel_rfl)) (fun _ _ _ h => h) (Or.inr ⟨by rfl, rfl⟩) ?_ ?_
         rotate_left
         ·simp only [Act.put, s1, s2, s3, i64_w, i32_w]
          rfl
         refine pure_ (i := 35) (N := some 114) (v := undef) (a' := ?_) m8_54_ rfl rfl (any_of HT_.out (by kernel_rfl)) (fun _ _ _ h => h) (Or.inr ⟨by rfl, rfl⟩) ?_ ?_
         rotate_left
         ·simp only [Act.put, s1, s2, s3, i64_w, i32_w]
          rfl
         refine pure_ (i := 36) (N := some 115) (v := undef) (a' := ?_) m8_37_ rfl rfl (any_of HT_.out (by kernel_rfl)) (fun _ _ _ h => h) (Or.inr ⟨by rfl, rfl⟩) ?_ ?_
         rotate_left
         ·simp only [Act.put, s1, s2, s3, i64_w, i32_w]
          rfl
         refine pure_ (i := 37) (N := some 116) (v := undef) (a' := ?_) m8_38_ rfl rfl (any_of HT_.out (by kernel_rfl)) (fun _ _ _ h => h) (Or.inr ⟨by rfl, rfl⟩) ?_ ?_
         rotate_left
         ·simp only [Act.put, s1, s2, s3, i64_w, i32_w]
          rfl
         refine pure_ (i := 38) (N := some 117) (v := undef) (a' := ?_) m8_39_ rfl rfl (any_of HT_.out (by kernel_rfl)) (fun _ _ _ h => h) (Or.inr ⟨by rfl, rfl⟩) ?_ ?_
         rotate_left
         ·simp only [Act.put, s1, s2, s3, i64_w, i32_w]
          rfl
         refine pu HT_.out (i := 39) (N := some 118) (v := ?_) (a' := ?_) m8_40_ rfl rfl (by kernel_rfl) (fun _ _ _ h => h) (by rfl) ?_ ?_ ?_; rotate_left; (·intro w'; go_simp; with_reducible rfl); rotate_left; (·simp only [Act.put, s1, s2, s3, i64_w, i32_w]; rfl)
         refine pu HT_.out (i := 40) (N := some 119) (v := ?_) (a' := ?_) m8_41_ rfl rfl (by kernel_rfl) (fun _ _ _ h => h) (by rfl) ?_ ?_ ?_; rotate_left; (·intro w'; go_simp; with_reducible rfl); rotate_left; (·simp only [Act.put, s1, s2, s3, i64_w, i32_w]; rfl)
         refine pure_ (i := 41) (N := some 120) (v := undef) (a' := ?_) m8_42_ rfl rfl (any_of HT_.out (by kernel_rfl)) (fun _ _ _ h => h) (Or.inr ⟨by rfl, rfl⟩) ?_ ?_
         rotate_left
         ·simp only [Act.put, s1, s2, s3, i64_w, i32_w]
          rfl
         refine pure_ (i := 42) (N := some 121) (v := undef) (a' := ?_) m8_43_ rfl rfl (any_of HT_.out (by kernel_rfl)) (fun _ _ _ h => h) (Or.inr ⟨by rfl, rfl⟩) ?_ ?_
         rotate_left
         ·simp only [Act.put, s1, s2, s3, i64_w, i32_w]
          rfl
         refine pure_ (i := 43) (N := some 122) (v := undef) (a' := ?_) m8_44_ rfl rfl (any_of HT_.out (by kernel_rfl)) (fun _ _ _ h => h) (Or.inr ⟨by rfl, rfl⟩) ?_ ?_
         rotate_left
         ·simp only [Act.put, s1, s2, s3, i64_w, i32_w]
          rfl
         refine pure_ (i := 44) (N := some 123) (v := undef) (a' := ?_) m8_45_ rfl rfl (any_of HT_.out (by kernel_rfl)) (fun _ _ _ h => h) (Or.inr ⟨by rfl, rfl⟩) ?_ ?_
         rotate_left
         ·simp only [Act.put, s1, s2, s3, i64_w, i32_w]
          rfl
         refine pure_ (i := 45) (N := some 124) (v := undef) (a' := ?_) m8_46_ rfl rfl (any_of HT_.out (by kernel_rfl)) (fun _ _ _ h => h) (Or.inr ⟨by rfl, rfl⟩) ?_ ?_
         rotate_left
         ·simp only [Act.put, s1, s2, s3, i64_w, i32_w]
          rfl
         refine pure_ (i := 46) (N := some 125) (v := undef) (a' := ?_) m8_47_ rfl rfl (any_of HT_.out (by kernel_rfl)) (fun _ _ _ h => h) (Or.inr ⟨by rfl, rfl⟩) ?_ ?_
         rotate_left
         ·simp only [Act.put, s1, s2, s3, i64_w, i32_w]
          rfl
         refine pu HT_.out (i := 47) (N := some 126) (v := ?_) (a' := ?_) m8_48_ rfl rfl (by kernel_rfl) (fun _ _ _ h => h) (by rfl) ?_ ?_ ?_; rotate_left; (·intro w'; go_simp; with_reducible rfl); rotate_left; (·simp only [Act.put, s1, s2, s3, i64_w, i32_w]; rfl)
         refine pu HT_.out (i := 48) (N := some 10) (v := ?_) (a' := ?_) m8_49_ rfl rfl (by kernel_rfl) (fun _ _ _ h => h) (by rfl) ?_ ?_ ?_; rotate_left; (·intro w'; go_simp; with_reducible rfl); rotate_left; (·simp only [Act.put, s1, s2, s3, i64_w, i32_w]; rfl)
         refine done_ (done_of HT_.out (by kernel_rfl)) ?_
         try go_wp2
         go_ret
         exact ⟨by first | rfl | (simp [errW_none, errW_some] <;> rfl) | (simp [*, errW_none, errW_some] <;> rfl), by repeat first | refine below_set ?_ GE356.out | refine below_set ?_ GE363.out | refine below_set ?_ GE376.out | refine below_set ?_ GE383.out | refine below_set ?_ GE392.out | refine below_set ?_ GE399.out | exact HB.out | apply below_alloc | apply pw_below_drewN | apply below_drew1⟩
       ·replace c58 := Bool.eq_false_iff.mpr c58
        subst c58
        have H1 : (some false) = some r := by rw [if_neg (show ¬ (false = true) by decide)] at H; exact H
        clear H
        have H := H1
        clear H1
        obtain rfl := Option.some.inj H
        have hnb200 := NB383_356.out
        have hnc200 := NB356_383.out
        have hnb201 := NB383_363.out
        have hnc201 := NB363_383.out
        have hnb202 := NB383_376.out
        have hnc202 := NB376_383.out
        have hcz203_0 : wc.cell? ⟨gb383, 0, none⟩ = some (.string t377) := (blk_cell BK383.out 0).trans rfl
        have hcz203_1 : wc.cell? ⟨gb383, 1, none⟩ = some (.int .i64 t378) := (blk_cell BK383.out 1).trans rfl
        have hcz203_2 : wc.cell? ⟨gb383, 2, none⟩ = some (.int .i64 t379) := (blk_cell BK383.out 2).trans rfl
        have hcz203_3 : wc.cell? ⟨gb383, 3, none⟩ = some (.int .i64 t380) := (blk_cell BK383.out 3).trans rfl
        have hcz203_4 : wc.cell? ⟨gb383, 4, none⟩ = some (.int .i64 t381) := (blk_cell BK383.out 4).trans rfl
        have hfz203_0 := blk_frozen BK383.out 0
        have hfz203_1 := blk_frozen BK383.out 1
        have hfz203_2 := blk_frozen BK383.out 2
        have hfz203_3 := blk_frozen BK383.out 3
        have hfz203_4 := blk_frozen BK383.out 4
        try go_wp2_with (first | ((with_reducible refine gate_callee (f := 24) rfl ?_); refine goesL_ (some 66) rfl rfl Tryd.func24 (by kernel_rfl) rfl #[.agg #[.string t377, .int .i64 t378, .int .i64 t379, .int .i64 t380, .int .i64 t381], .int .i32 a2] rfl (by (try simp only [List.map_toArray, List.map_cons, List.map_nil]); first | done | rfl | (simp only [List.length_drop, List.length_take]; rfl)) ?_; (with_reducible refine (cell_Mark.calls kj10 t377 t378 t379 t380 t381 a2 t386 t387 t388 t389 t390 t391 _ A54.out).mono ?_); rintro e w204 ⟨rfl, hb⟩; refine ⟨_, rfl, ?_⟩; replace BK356 := Aside0.mk (bb hb BK356.out); replace BK363 := Aside0.mk (bb hb BK363.out); replace BK376 := Aside0.mk (bb hb BK376.out); replace BK383 := Aside0.mk (bb hb BK383.out); replace HB := Aside0.mk (below_step (by repeat first | refine below_set ?_ GE356.out | refine below_set ?_ GE363.out | refine below_set ?_ GE376.out | refine below_set ?_ GE383.out | exact HB.out | apply below_alloc | apply pw_below_drewN | apply below_drew1) hb); (try clear hb); (try clear hb2); (try clear hk); (try clear hi)) | ((with_reducible refine gate_dst (N := 17) rfl ?_); (try (refine gate_guard (by rfl) ?_; dsimp only)); refine box_event ?hg (N := 17) ?hd (cs := #[.string (⟨#[]⟩ : ByteArray), .int .i64 0, .int .i64 0, .int .i64 0, .int .i64 0]) (t := 40) ?hr ?_; (case hd => rfl); (case hg => rfl); (case hr => first | (go_simp; done) | (go_simp; rfl)); intro gb392 hg w205 hbox hb; have BK392 := Aside0.mk (hbox); have GW392 := Aside0.mk ((by rw [hg]; exact (below_size (by repeat first | refine below_set ?_ GE356.out | refine below_set ?_ GE363.out | refine below_set ?_ GE376.out | refine below_set ?_ GE383.out | exact HB.out | apply below_alloc | apply pw_below_drewN | apply below_drew1)) : w.heap.size ≤ gb392)); have GE392 := GW392; have NB356_392 := Aside0.mk ((by rw [hg]; exact lt1 BK356.out : gb356 ≠ gb392)); have NB392_356 := Aside0.mk ((by rw [hg]; exact gt1 BK356.out : gb392 ≠ gb356)); have NB363_392 := Aside0.mk ((by rw [hg]; exact lt1 BK363.out : gb363 ≠ gb392)); have NB392_363 := Aside0.mk ((by rw [hg]; exact gt1 BK363.out : gb392 ≠ gb363)); have NB376_392 := Aside0.mk ((by rw [hg]; exact lt1 BK376.out : gb376 ≠ gb392)); have NB392_376 := Aside0.mk ((by rw [hg]; exact gt1 BK376.out : gb392 ≠ gb376)); have NB383_392 := Aside0.mk ((by rw [hg]; exact lt1 BK383.out : gb383 ≠ gb392)); have NB392_383 := Aside0.mk ((by rw [hg]; exact gt1 BK383.out : gb392 ≠ gb383)); replace BK356 := Aside0.mk (bb hb BK356.out); replace BK363 := Aside0.mk (bb hb BK363.out); replace BK376 := Aside0.mk (bb hb BK376.out); replace BK383 := Aside0.mk (bb hb BK383.out); replace HB := Aside0.mk (below_step (by repeat first | refine below_set ?_ GE356.out | refine below_set ?_ GE363.out | refine below_set ?_ GE376.out | refine below_set ?_ GE383.out | exact HB.out | apply below_alloc | apply pw_below_drewN | apply below_drew1) hb); clear hb hbox hg; have hnb206 := NB392_356.out; have hnc206 := NB356_392.out; have hnb207 := NB392_363.out; have hnc207 := NB363_392.out; have hnb208 := NB392_376.out; have hnc208 := NB376_392.out; have hnb209 := NB392_383.out; have hnc209 := NB383_392.out; obtain ⟨hcz210_0, hcz210_1, hcz210_2, hcz210_3, hcz210_4, hfz210_0, hfz210_1, hfz210_2, hfz210_3, hfz210_4⟩ := cz5 BK392.out) | ((with_reducible refine gate_callee (f := 24) rfl ?_); refine goesL_ (some 76) rfl rfl Tryd.func24 (by kernel_rfl) rfl #[.agg #[.string t386, .int .i64 t387, .int .i64 t388, .int .i64 t389, .int .i64 t390], .int .i32 a3] rfl (by (try simp only [List.map_toArray, List.map_cons, List.map_nil]); first | done | rfl | (simp only [List.length_drop, List.length_take]; rfl)) ?_; (with_reducible refine (cell_Mark.calls kj10 t386 t387 t388 t389 t390 a3 t393 t394 t395 t396 t397 t398 _ A56.out).mono ?_); rintro e w211 ⟨rfl, hb⟩; refine ⟨_, rfl, ?_⟩; replace BK356 := Aside0.mk (bb hb (far5 NB356_392.out BK356.out)); replace BK363 := Aside0.mk (bb hb (far5 NB363_392.out BK363.out)); replace BK376 := Aside0.mk (bb hb (far5 NB376_392.out BK376.out)); replace BK383 := Aside0.mk (bb hb (far5 NB383_392.out BK383.out)); replace BK392 := Aside0.mk (bb hb (put5 BK392.out)); replace HB := Aside0.mk (below_step (by repeat first | refine below_set ?_ GE356.out | refine below_set ?_ GE363.out | refine below_set ?_ GE376.out | refine below_set ?_ GE383.out | refine below_set ?_ GE392.out | exact HB.out | apply below_alloc | apply pw_below_drewN | apply below_drew1) hb); (try clear hb); (try clear hb2); (try clear hk); (try clear hi)) | ((with_reducible refine gate_dst (N := 19) rfl ?_); (try (refine gate_guard (by rfl) ?_; dsimp only)); refine box_event ?hg (N := 19) ?hd (cs := #[.string (⟨#[]⟩ : ByteArray), .int .i64 0, .int .i64 0, .int .i64 0, .int .i64 0]) (t := 40) ?hr ?_; (case hd => rfl); (case hg => rfl); (case hr => first | (go_simp; done) | (go_simp; rfl)); intro gb399 hg w212 hbox hb; have BK399 := Aside0.mk (hbox); have GW399 := Aside0.mk ((by rw [hg]; exact (below_size (by repeat first | refine below_set ?_ GE356.out | refine below_set ?_ GE363.out | refine below_set ?_ GE376.out | refine below_set ?_ GE383.out | refine below_set ?_ GE392.out | exact HB.out | apply below_alloc | apply pw_below_drewN | apply below_drew1)) : w.heap.size ≤ gb399)); have GE399 := GW399; have NB356_399 := Aside0.mk ((by rw [hg]; exact lt1 BK356.out : gb356 ≠ gb399)); have NB399_356 := Aside0.mk ((by rw [hg]; exact gt1 BK356.out : gb399 ≠ gb356)); have NB363_399 := Aside0.mk ((by rw [hg]; exact lt1 BK363.out : gb363 ≠ gb399)); have NB399_363 := Aside0.mk ((by rw [hg]; exact gt1 BK363.out : gb399 ≠ gb363)); have NB376_399 := Aside0.mk ((by rw [hg]; exact lt1 BK376.out : gb376 ≠ gb399)); have NB399_376 := Aside0.mk ((by rw [hg]; exact gt1 BK376.out : gb399 ≠ gb376)); have NB383_399 := Aside0.mk ((by rw [hg]; exact lt1 BK383.out : gb383 ≠ gb399)); have NB399_383 := Aside0.mk ((by rw [hg]; exact gt1 BK383.out : gb399 ≠ gb383)); have NB392_399 := Aside0.mk ((by rw [hg]; exact lt1 BK392.out : gb392 ≠ gb399)); have NB399_392 := Aside0.mk ((by rw [hg]; exact gt1 BK392.out : gb399 ≠ gb392)); replace BK356 := Aside0.mk (bb hb BK356.out); replace BK363 := Aside0.mk (bb hb BK363.out); replace BK376 := Aside0.mk (bb hb BK376.out); replace BK383 := Aside0.mk (bb hb BK383.out); replace BK392 := Aside0.mk (bb hb BK392.out); replace HB := Aside0.mk (below_step (by repeat first | refine below_set ?_ GE356.out | refine below_set ?_ GE363.out | refine below_set ?_ GE376.out | refine below_set ?_ GE383.out | refine below_set ?_ GE392.out | exact HB.out | apply below_alloc | apply pw_below_drewN | apply below_drew1) hb); clear hb hbox hg; have hnb213 := NB399_356.out; have hnc213 := NB356_399.out; have hnb214 := NB399_363.out; have hnc214 := NB363_399.out; have hnb215 := NB399_376.out; have hnc215 := NB376_399.out; have hnb216 := NB399_383.out; have hnc216 := NB383_399.out; have hnb217 := NB399_392.out; have hnc217 := NB392_399.out; obtain ⟨hcz218_0, hcz218_1, hcz218_2, hcz218_3, hcz218_4, hfz218_0, hfz218_1, hfz218_2, hfz218_3, hfz218_4⟩ := cz5 BK399.out))
        have n0_ : Aside0 ((((((w212.setCell ⟨gb399, 0, none⟩ (.string t393)).setCell ⟨gb399, 1, none⟩ (.int .i64 t394)).setCell ⟨gb399, 2, none⟩ (.int .i64 t395)).setCell ⟨gb399, 3, none⟩ (.int .i64 t396)).setCell ⟨gb399, 4, none⟩ (.int .i64 t397)).heap[gb356]? = some (.cells #[.int .i64 a4_0, .int .i64 a4_1, .int .i64 a4_2] 38 (0, 0))) := ⟨by exact (far5 NB356_399.out BK356.out)⟩
        have n1_ : Aside0 ((((((w212.setCell ⟨gb399, 0, none⟩ (.string t393)).setCell ⟨gb399, 1, none⟩ (.int .i64 t394)).setCell ⟨gb399, 2, none⟩ (.int .i64 t395)).setCell ⟨gb399, 3, none⟩ (.int .i64 t396)).setCell ⟨gb399, 4, none⟩ (.int .i64 t397)).heap[gb363]? = some (.cells #[.string t357, .int .i64 t358, .int .i64 t359, .int .i64 t360, .int .i64 t361] 40 (0, 0))) := ⟨by exact (far5 NB363_399.out BK363.out)⟩
        have n2_ : Aside0 ((((((w212.setCell ⟨gb399, 0, none⟩ (.string t393)).setCell ⟨gb399, 1, none⟩ (.int .i64 t394)).setCell ⟨gb399, 2, none⟩ (.int .i64 t395)).setCell ⟨gb399, 3, none⟩ (.int .i64 t396)).setCell ⟨gb399, 4, none⟩ (.int .i64 t397)).heap[gb376]? = some (.cells #[.string t370, .int .i64 t371, .int .i64 t372, .int .i64 t373, .int .i64 t374] 40 (0, 0))) := ⟨by exact (far5 NB376_399.out BK376.out)⟩
        have n3_ : Aside0 ((((((w212.setCell ⟨gb399, 0, none⟩ (.string t393)).setCell ⟨gb399, 1, none⟩ (.int .i64 t394)).setCell ⟨gb399, 2, none⟩ (.int .i64 t395)).setCell ⟨gb399, 3, none⟩ (.int .i64 t396)).setCell ⟨gb399, 4, none⟩ (.int .i64 t397)).heap[gb383]? = some (.cells #[.string t377, .int .i64 t378, .int .i64 t379, .int .i64 t380, .int .i64 t381] 40 (0, 0))) := ⟨by exact (far5 NB383_399.out BK383.out)⟩
        have n4_ : Aside0 ((((((w212.setCell ⟨gb399, 0, none⟩ (.string t393)).setCell ⟨gb399, 1, none⟩ (.int .i64 t394)).setCell ⟨gb399, 2, none⟩ (.int .i64 t395)).setCell ⟨gb399, 3, none⟩ (.int .i64 t396)).setCell ⟨gb399, 4, none⟩ (.int .i64 t397)).heap[gb392]? = some (.cells #[.string t386, .int .i64 t387, .int .i64 t388, .int .i64 t389, .int .i64 t390] 40 (0, 0))) := ⟨by exact (far5 NB392_399.out BK392.out)⟩
        have n5_ : Aside0 ((((((w212.setCell ⟨gb399, 0, none⟩ (.string t393)).setCell ⟨gb399, 1, none⟩ (.int .i64 t394)).setCell ⟨gb399, 2, none⟩ (.int .i64 t395)).setCell ⟨gb399, 3, none⟩ (.int .i64 t396)).setCell ⟨gb399, 4, none⟩ (.int .i64 t397)).heap[gb399]? = some (.cells #[.string t393, .int .i64 t394, .int .i64 t395, .int .i64 t396, .int .i64 t397] 40 (0, 0))) := ⟨by exact (put5 BK399.out)⟩
        have n6_ : Aside0 (Below w.heap.size w (((((w212.setCell ⟨gb399, 0, none⟩ (.string t393)).setCell ⟨gb399, 1, none⟩ (.int .i64 t394)).setCell ⟨gb399, 2, none⟩ (.int .i64 t395)).setCell ⟨gb399, 3, none⟩ (.int .i64 t396)).setCell ⟨gb399, 4, none⟩ (.int .i64 t397))) := ⟨by repeat first | refine below_set ?_ GE356.out | refine below_set ?_ GE363.out | refine below_set ?_ GE376.out | refine below_set ?_ GE383.out | refine below_set ?_ GE392.out | refine below_set ?_ GE399.out | exact HB.out | apply below_alloc | apply pw_below_drewN | apply below_drew1⟩
        (try clear BK356)
        (try clear BK363)
        (try clear BK376)
        (try clear BK383)
        (try clear BK392)
        (try clear BK399)
        (try clear HB)
        generalize (((((w212.setCell ⟨gb399, 0, none⟩ (.string t393)).setCell ⟨gb399, 1, none⟩ (.int .i64 t394)).setCell ⟨gb399, 2, none⟩ (.int .i64 t395)).setCell ⟨gb399, 3, none⟩ (.int .i64 t396)).setCell ⟨gb399, 4, none⟩ (.int .i64 t397)) = w219 at n0_ n1_ n2_ n3_ n4_ n5_ n6_ ⊢
        have BK356 := n0_
        have BK363 := n1_
        have BK376 := n2_
        have BK383 := n3_
        have BK392 := n4_
        have BK399 := n5_
        have HB := n6_
        clear n0_ n1_ n2_ n3_ n4_ n5_ n6_
        replace BK356 := Aside0.mk (blk_drew BK356.out); replace BK363 := Aside0.mk (blk_drew BK363.out); replace BK376 := Aside0.mk (blk_drew BK376.out); replace BK383 := Aside0.mk (blk_drew BK383.out); replace BK392 := Aside0.mk (blk_drew BK392.out); replace BK399 := Aside0.mk (blk_drew BK399.out); replace HB := Aside0.mk (below_drew1 HB.out)
        refine start_ (n := 49) (S := fun w' => w'.cell? ⟨gb392, 0, none⟩ = some (.string t386) ∧ w'.cell? ⟨gb392, 1, none⟩ = some (.int .i64 t387) ∧ w'.cell? ⟨gb392, 2, none⟩ = some (.int .i64 t388) ∧ w'.cell? ⟨gb392, 3, none⟩ = some (.int .i64 t389) ∧ w'.cell? ⟨gb392, 4, none⟩ = some (.int .i64 t390)) (ds := []) m8_0_ (by kernel_rfl) rfl rfl ⟨(blk_cell BK392.out 0).trans rfl, (blk_cell BK392.out 1).trans rfl, (blk_cell BK392.out 2).trans rfl, (blk_cell BK392.out 3).trans rfl, (blk_cell BK392.out 4).trans rfl⟩ (fun hHeld => ?_); refine with_tabW backseatlaw04_CellMarks.tab14 backseatlaw04_CellMarks.bits14 (fun HT_ HW_ => ?_)
        generalize w219.drew = w220 at BK356 BK363 BK376 BK383 BK392 BK399 HB hHeld ⊢
        refine take_ (i := 0) (N := some 79) (v := ?_) (a' := ?_) m8_1_ rfl rfl (take_ofW HT_.out HW_.out (by kernel_rfl)) (fun _ _ _ h => h) (Or.inl ⟨by rfl, ?_⟩) hHeld ?_ ?_; rotate_left; (·rintro w' ⟨s0, s1, s2, s3, s4⟩; go_simp; with_reducible rfl); rotate_left; (·simp only [Act.put, s1, s2, s3, i64_w, i32_w]; rfl)
        refine one_ (i := 1) (N := some 80) m8_2_ rfl rfl (one_of HT_.out (by kernel_rfl)) (by decide) (fun K hK => ?_)
        refine goes_ Tryd.func25 (by kernel_rfl) rfl #[.agg #[.string t386, .int .i64 t387, .int .i64 t388, .int .i64 t389, .int .i64 t390]] (by rfl) rfl rfl (by (try simp only [List.map_toArray, List.map_cons, List.map_nil]); first | done | rfl | (simp only [List.length_drop, List.length_take]; rfl)) ?_
        with_reducible refine (cell_Right.calls kj10 t386 t387 t388 t389 t390 false _ A57.out).mono ?_
        rintro e w221 ⟨rfl, hb⟩
        refine ⟨_, rfl, ?_⟩
        replace BK356 := Aside0.mk (bb hb BK356.out); replace BK363 := Aside0.mk (bb hb BK363.out); replace BK376 := Aside0.mk (bb hb BK376.out); replace BK383 := Aside0.mk (bb hb BK383.out); replace BK392 := Aside0.mk (bb hb BK392.out); replace BK399 := Aside0.mk (bb hb BK399.out); replace HB := Aside0.mk (below_step (by repeat first | refine below_set ?_ GE356.out | refine below_set ?_ GE363.out | refine below_set ?_ GE376.out | refine below_set ?_ GE383.out | refine below_set ?_ GE392.out | refine below_set ?_ GE399.out | exact HB.out | apply below_alloc | apply pw_below_drewN | apply below_drew1) hb)
        (try clear hb)
        (try clear hb2)
        (try clear hk)
        (try clear hi)
        refine hK.out _ _ ⟨(blk_cell BK392.out 0).trans rfl, (blk_cell BK392.out 1).trans rfl, (blk_cell BK392.out 2).trans rfl, (blk_cell BK392.out 3).trans rfl, (blk_cell BK392.out 4).trans rfl⟩ (fun hHeld => ?_)
        clear hK K
        refine norm_ (a' := ?_) ?_ ?_
        rotate_left
        ·show Act.put _ (some 80) _ = _
         simp only [Act.put, s1, s2, s3, i64_w, i32_w]
         rfl
        refine pu HT_.out (i := 2) (N := some 81) (v := ?_) (a' := ?_) m8_3_ rfl rfl (by kernel_rfl) (fun _ _ _ h => h) (by rfl) ?_ ?_ ?_; rotate_left; (·intro w'; go_simp; with_reducible rfl); rotate_left; (·simp only [Act.put, s1, s2, s3, i64_w, i32_w]; rfl)
        refine pure_ (i := 3) (N := some 82) (v := undef) (a' := ?_) m8_4_ rfl rfl (any_of HT_.out (by kernel_rfl)) (fun _ _ _ h => h) (Or.inr ⟨by rfl, rfl⟩) ?_ ?_
        rotate_left
        ·simp only [Act.put, s1, s2, s3, i64_w, i32_w]
         rfl
        refine pure_ (i := 4) (N := some 83) (v := undef) (a' := ?_) m8_62_ rfl rfl (any_of HT_.out (by kernel_rfl)) (fun _ _ _ h => h) (Or.inr ⟨by rfl, rfl⟩) ?_ ?_
        rotate_left
        ·simp only [Act.put, s1, s2, s3, i64_w, i32_w]
         rfl
        refine pure_ (i := 5) (N := some 84) (v := undef) (a' := ?_) m8_6_ rfl rfl (any_of HT_.out (by kernel_rfl)) (fun _ _ _ h => h) (Or.inr ⟨by rfl, rfl⟩) ?_ ?_
        rotate_left
        ·simp only [Act.put, s1, s2, s3, i64_w, i32_w]
         rfl
        refine pure_ (i := 6) (N := some 85) (v := undef) (a' := ?_) m8_7_ rfl rfl (any_of HT_.out (by kernel_rfl)) (fun _ _ _ h => h) (Or.inr ⟨by rfl, rfl⟩) ?_ ?_
        rotate_left
        ·simp only [Act.put, s1, s2, s3, i64_w, i32_w]
         rfl
        refine pure_ (i := 7) (N := some 86) (v := undef) (a' := ?_) m8_8_ rfl rfl (any_of HT_.out (by kernel_rfl)) (fun _ _ _ h => h) (Or.inr ⟨by rfl, rfl⟩) ?_ ?_
        rotate_left
        ·simp only [Act.put, s1, s2, s3, i64_w, i32_w]
         rfl
        refine pu HT_.out (i := 8) (N := some 87) (v := ?_) (a' := ?_) m8_9_ rfl rfl (by kernel_rfl) (fun _ _ _ h => h) (by rfl) ?_ ?_ ?_; rotate_left; (·intro w'; go_simp; with_reducible rfl); rotate_left; (·simp only [Act.put, s1, s2, s3, i64_w, i32_w]; rfl)
        refine pu HT_.out (i := 9) (N := some 88) (v := ?_) (a' := ?_) m8_10_ rfl rfl (by kernel_rfl) (fun _ _ _ h => h) (by rfl) ?_ ?_ ?_; rotate_left; (·intro w'; go_simp; with_reducible rfl); rotate_left; (·simp only [Act.put, s1, s2, s3, i64_w, i32_w]; rfl)
        refine pure_ (i := 10) (N := some 89) (v := undef) (a' := ?_) m8_11_ rfl rfl (any_of HT_.out (by kernel_rfl)) (fun _ _ _ h => h) (Or.inr ⟨by rfl, rfl⟩) ?_ ?_
        rotate_left
        ·simp only [Act.put, s1, s2, s3, i64_w, i32_w]
         rfl
        refine pure_ (i := 11) (N := some 90) (v := undef) (a' := ?_) m8_60_ rfl rfl (any_of HT_.out (by kernel_rfl)) (fun _ _ _ h => h) (Or.inr ⟨by rfl, rfl⟩) ?_ ?_
        rotate_left
        ·simp only [Act.put, s1, s2, s3, i64_w, i32_w]
         rfl
        refine pure_ (i := 12) (N := some 91) (v := undef) (a' := ?_) m8_61_ rfl rfl (any_of HT_.out (by kernel_rfl)) (fun _ _ _ h => h) (Or.inr ⟨by rfl, rfl⟩) ?_ ?_
        rotate_left
        ·simp only [Act.put, s1, s2, s3, i64_w, i32_w]
         rfl
        refine pure_ (i := 13) (N := some 92) (v := undef) (a' := ?_) m8_14_ rfl rfl (any_of HT_.out (by kernel_rfl)) (fun _ _ _ h => h) (Or.inr ⟨by rfl, rfl⟩) ?_ ?_
        rotate_left
        ·simp only [Act.put, s1, s2, s3, i64_w, i32_w]
         rfl
        refine pure_ (i := 14) (N := some 93) (v := undef) (a' := ?_) m8_15_ rfl rfl (any_of HT_.out (by kernel_rfl)) (fun _ _ _ h => h) (Or.inr ⟨by rfl, rfl⟩) ?_ ?_
        rotate_left
        ·simp only [Act.put, s1, s2, s3, i64_w, i32_w]
         rfl
        refine pure_ (i := 15) (N := some 94) (v := undef) (a' := ?_) m8_16_ rfl rfl (any_of HT_.out (by kernel_rfl)) (fun _ _ _ h => h) (Or.inr ⟨by rfl, rfl⟩) ?_ ?_
        rotate_left
        ·simp only [Act.put, s1, s2, s3, i64_w, i32_w]
         rfl
        refine pure_ (i := 16) (N := some 95) (v := undef) (a' := ?_) m8_17_ rfl rfl (any_of HT_.out (by kernel_rfl)) (fun _ _ _ h => h) (Or.inr ⟨by rfl, rfl⟩) ?_ ?_
        rotate_left
        ·simp only [Act.put, s1, s2, s3, i64_w, i32_w]
         rfl
        refine pu HT_.out (i := 17) (N := some 96) (v := ?_) (a' := ?_) m8_18_ rfl rfl (by kernel_rfl) (fun _ _ _ h => h) (by rfl) ?_ ?_ ?_; rotate_left; (·intro w'; go_simp; with_reducible rfl); rotate_left; (·simp only [Act.put, s1, s2, s3, i64_w, i32_w]; rfl)
        refine pu HT_.out (i := 18) (N := some 97) (v := ?_) (a' := ?_) m8_19_ rfl rfl (by kernel_rfl) (fun _ _ _ h => h) (by rfl) ?_ ?_ ?_; rotate_left; (·intro w'; go_simp; with_reducible rfl); rotate_left; (·simp only [Act.put, s1, s2, s3, i64_w, i32_w]; rfl)
        refine pure_ (i := 19) (N := some 98) (v := undef) (a' := ?_) m8_20_ rfl rfl (any_of HT_.out (by kernel_rfl)) (fun _ _ _ h => h) (Or.inr ⟨by rfl, rfl⟩) ?_ ?_
        rotate_left
        ·simp only [Act.put, s1, s2, s3, i64_w, i32_w]
         rfl
        refine pure_ (i := 20) (N := some 99) (v := undef) (a' := ?_) m8_55_ rfl rfl (any_of HT_.out (by kernel_rfl)) (fun _ _ _ h => h) (Or.inr ⟨by rfl, rfl⟩) ?_ ?_
        rotate_left
        ·simp only [Act.put, s1, s2, s3, i64_w, i32_w]
         rfl
        refine pure_ (i := 21) (N := some 100) (v := undef) (a' := ?_) m8_56_ rfl rfl (any_of HT_.out (by kernel_rfl)) (fun _ _ _ h => h) (Or.inr ⟨by rfl, rfl⟩) ?_ ?_
        rotate_left
        ·simp only [Act.put, s1, s2, s3, i64_w, i32_w]
         rfl
        refine pure_ (i := 22) (N := some 101) (v := undef) (a' := ?_) m8_57_ rfl rfl (any_of HT_.out (by kernel_rfl)) (fun _ _ _ h => h) (Or.inr ⟨by rfl, rfl⟩) ?_ ?_
        rotate_left
        ·simp only [Act.put, s1, s2, s3, i64_w, i32_w]
         rfl
        refine pure_ (i := 23) (N := some 102) (v := undef) (a' := ?_) m8_58_ rfl rfl (any_of HT_.out (by kernel_rfl)) (fun _ _ _ h => h) (Or.inr ⟨by rfl, rfl⟩) ?_ ?_
        rotate_left
        ·simp only [Act.put, s1, s2, s3, i64_w, i32_w]
         rfl
        refine pure_ (i := 24) (N := some 103) (v := undef) (a' := ?_) m8_59_ rfl rfl (any_of HT_.out (by kernel_rfl)) (fun _ _ _ h => h) (Or.inr ⟨by rfl, rfl⟩) ?_ ?_
        rotate_left
        ·simp only [Act.put, s1, s2, s3, i64_w, i32_w]
         rfl
        refine pure_ (i := 25) (N := some 104) (v := undef) (a' := ?_) m8_26_ rfl rfl (any_of HT_.out (by kernel_rfl)) (fun _ _ _ h => h) (Or.inr ⟨by rfl, rfl⟩) ?_ ?_
        rotate_left
        ·simp only [Act.put, s1, s2, s3, i64_w, i32_w]
         rfl
        refine pure_ (i := 26) (N := some 105) (v := undef) (a' := ?_) m8_27_ rfl rfl (any_of HT_.out (by kernel_rfl)) (fun _ _ _ h => h) (Or.inr ⟨by rfl, rfl⟩) ?_ ?_
        rotate_left
        ·simp only [Act.put, s1, s2, s3, i64_w, i32_w]
         rfl
        refine pure_ (i := 27) (N := some 106) (v := undef) (a' := ?_) m8_28_ rfl rfl (any_of HT_.out (by kernel_rfl)) (fun _ _ _ h => h) (Or.inr ⟨by rfl, rfl⟩) ?_ ?_
        rotate_left
        ·simp only [Act.put, s1, s2, s3, i64_w, i32_w]
         rfl
        refine pu HT_.out (i := 28) (N := some 107) (v := ?_) (a' := ?_) m8_29_ rfl rfl (by kernel_rfl) (fun _ _ _ h => h) (by rfl) ?_ ?_ ?_; rotate_left; (·intro w'; go_simp; with_reducible rfl); rotate_left; (·simp only [Act.put, s1, s2, s3, i64_w, i32_w]; rfl)
        refine pu HT_.out (i := 29) (N := some 108) (v := ?_) (a' := ?_) m8_30_ rfl rfl (by kernel_rfl) (fun _ _ _ h => h) (by rfl) ?_ ?_ ?_; rotate_left; (·intro w'; go_simp; with_reducible rfl); rotate_left; (·simp only [Act.put, s1, s2, s3, i64_w, i32_w]; rfl)
        refine pure_ (i := 30) (N := some 109) (v := undef) (a' := ?_) m8_31_ rfl rfl (any_of HT_.out (by kernel_rfl)) (fun _ _ _ h => h) (Or.inr ⟨by rfl, rfl⟩) ?_ ?_
        rotate_left
        ·simp only [Act.put, s1, s2, s3, i64_w, i32_w]
         rfl
        refine pure_ (i := 31) (N := some 110) (v := undef) (a' := ?_) m8_50_ rfl rfl (any_of HT_.out (by kernel_rfl)) (fun _ _ _ h => h) (Or.inr ⟨by rfl, rfl⟩) ?_ ?_
        rotate_left
        ·simp only [Act.put, s1, s2, s3, i64_w, i32_w]
         rfl
        refine pure_ (i := 32) (N := some 111) (v := undef) (a' := ?_) m8_51_ rfl rfl (any_of HT_.out (by kernel_rfl)) (fun _ _ _ h => h) (Or.inr ⟨by rfl, rfl⟩) ?_ ?_
        rotate_left
        ·simp only [Act.put, s1, s2, s3, i64_w, i32_w]
         rfl
        refine pure_ (i := 33) (N := some 112) (v := undef) (a' := ?_) m8_52_ rfl rfl (any_of HT_.out (by kernel_rfl)) (fun _ _ _ h => h) (Or.inr ⟨by rfl, rfl⟩) ?_ ?_
        rotate_left
        ·simp only [Act.put, s1, s2, s3, i64_w, i32_w]
         rfl
        refine pure_ (i := 34) (N := some 113) (v := undef) (a' := ?_) m8_53_ rfl rfl (any_of HT_.out (by kernel_rfl)) (fun _ _ _ h => h) (Or.inr ⟨by rfl, rfl⟩) ?_ ?_
        rotate_left
        ·simp only [Act.put, s1, s2, s3, i64_w, i32_w]
         rfl
        refine pure_ (i := 35) (N := some 114) (v := undef) (a' := ?_) m8_54_ rfl rfl (any_of HT_.out (by kernel_rfl)) (fun _ _ _ h => h) (Or.inr ⟨by rfl, rfl⟩) ?_ ?_
        rotate_left
        ·simp only [Act.put, s1, s2, s3, i64_w, i32_w]
         rfl
        refine pure_ (i := 36) (N := some 115) (v := undef) (a' := ?_) m8_37_ rfl rfl (any_of HT_.out (by kernel_rfl)) (fun _ _ _ h => h) (Or.inr ⟨by rfl, rfl⟩) ?_ ?_
        rotate_left
        ·simp only [Act.put, s1, s2, s3, i64_w, i32_w]
         rfl
        refine pure_ (i := 37) (N := some 116) (v := undef) (a' := ?_) m8_38_ rfl rfl (any_of HT_.out (by kernel_rfl)) (fun _ _ _ h => h) (Or.inr ⟨by rfl, rfl⟩) ?_ ?_
        rotate_left
        ·simp only [Act.put, s1, s2, s3, i64_w, i32_w]
         rfl
        refine pure_ (i := 38) (N := some 117) (v := undef) (a' := ?_) m8_39_ rfl rfl (any_of HT_.out (by kernel_rfl)) (fun _ _ _ h => h) (Or.inr ⟨by rfl, rfl⟩) ?_ ?_
        rotate_left
        ·simp only [Act.put, s1, s2, s3, i64_w, i32_w]
         rfl
        refine pu HT_.out (i := 39) (N := some 118) (v := ?_) (a' := ?_) m8_40_ rfl rfl (by kernel_rfl) (fun _ _ _ h => h) (by rfl) ?_ ?_ ?_; rotate_left; (·intro w'; go_simp; with_reducible rfl); rotate_left; (·simp only [Act.put, s1, s2, s3, i64_w, i32_w]; rfl)
        refine pu HT_.out (i := 40) (N := some 119) (v := ?_) (a' := ?_) m8_41_ rfl rfl (by kernel_rfl) (fun _ _ _ h => h) (by rfl) ?_ ?_ ?_; rotate_left; (·intro w'; go_simp; with_reducible rfl); rotate_left; (·simp only [Act.put, s1, s2, s3, i64_w, i32_w]; rfl)
        refine pure_ (i := 41) (N := some 120) (v := undef) (a' := ?_) m8_42_ rfl rfl (any_of HT_.out (by kernel_rfl)) (fun _ _ _ h => h) (Or.inr ⟨by rfl, rfl⟩) ?_ ?_
        rotate_left
        ·simp only [Act.put, s1, s2, s3, i64_w, i32_w]
         rfl
        refine pure_ (i := 42) (N := some 121) (v := undef) (a' := ?_) m8_43_ rfl rfl (any_of HT_.out (by kernel_rfl)) (fun _ _ _ h => h) (Or.inr ⟨by rfl, rfl⟩) ?_ ?_
        rotate_left
        ·simp only [Act.put, s1, s2, s3, i64_w, i32_w]
         rfl
        refine pure_ (i := 43) (N := some 122) (v := undef) (a' := ?_) m8_44_ rfl rfl (any_of HT_.out (by kernel_rfl)) (fun _ _ _ h => h) (Or.inr ⟨by rfl, rfl⟩) ?_ ?_
        rotate_left
        ·simp only [Act.put, s1, s2, s3, i64_w, i32_w]
         rfl
        refine pure_ (i := 44) (N := some 123) (v := undef) (a' := ?_) m8_45_ rfl rfl (any_of HT_.out (by kernel_rfl)) (fun _ _ _ h => h) (Or.inr ⟨by rfl, rfl⟩) ?_ ?_
        rotate_left
        ·simp only [Act.put, s1, s2, s3, i64_w, i32_w]
         rfl
        refine pure_ (i := 45) (N := some 124) (v := undef) (a' := ?_) m8_46_ rfl rfl (any_of HT_.out (by kernel_rfl)) (fun _ _ _ h => h) (Or.inr ⟨by rfl, rfl⟩) ?_ ?_
        rotate_left
        ·simp only [Act.put, s1, s2, s3, i64_w, i32_w]
         rfl
        refine pure_ (i := 46) (N := some 125) (v := undef) (a' := ?_) m8_47_ rfl rfl (any_of HT_.out (by kernel_rfl)) (fun _ _ _ h => h) (Or.inr ⟨by rfl, rfl⟩) ?_ ?_
        rotate_left
        ·simp only [Act.put, s1, s2, s3, i64_w, i32_w]
         rfl
        refine pu HT_.out (i := 47) (N := some 126) (v := ?_) (a' := ?_) m8_48_ rfl rfl (by kernel_rfl) (fun _ _ _ h => h) (by rfl) ?_ ?_ ?_; rotate_left; (·intro w'; go_simp; with_reducible rfl); rotate_left; (·simp only [Act.put, s1, s2, s3, i64_w, i32_w]; rfl)
        refine pu HT_.out (i := 48) (N := some 10) (v := ?_) (a' := ?_) m8_49_ rfl rfl (by kernel_rfl) (fun _ _ _ h => h) (by rfl) ?_ ?_ ?_; rotate_left; (·intro w'; go_simp; with_reducible rfl); rotate_left; (·simp only [Act.put, s1, s2, s3, i64_w, i32_w]; rfl)
        refine done_ (done_of HT_.out (by kernel_rfl)) ?_
        try go_wp2
        go_ret
        exact ⟨by first | rfl | (simp [errW_none, errW_some] <;> rfl) | (simp [*, errW_none, errW_some] <;> rfl), by repeat first | refine below_set ?_ GE356.out | refine below_set ?_ GE363.out | refine below_set ?_ GE376.out | refine below_set ?_ GE383.out | refine below_set ?_ GE392.out | refine below_set ?_ GE399.out | exact HB.out | apply below_alloc | apply pw_below_drewN | apply below_drew1⟩
      ·rw [if_neg c55] at H
       have c55b0 : (t391 == 0) = false := beq_eq_false_iff_ne.mpr c55
       have c55b1 : (t391 != 0) = true := bne_iff_ne.mpr c55
       obtain rfl := Option.some.inj H
       have hnb222 := NB383_356.out
       have hnc222 := NB356_383.out
       have hnb223 := NB383_363.out
       have hnc223 := NB363_383.out
       have hnb224 := NB383_376.out
       have hnc224 := NB376_383.out
       have hcz225_0 : wc.cell? ⟨gb383, 0, none⟩ = some (.string t377) := (blk_cell BK383.out 0).trans rfl
       have hcz225_1 : wc.cell? ⟨gb383, 1, none⟩ = some (.int .i64 t378) := (blk_cell BK383.out 1).trans rfl
       have hcz225_2 : wc.cell? ⟨gb383, 2, none⟩ = some (.int .i64 t379) := (blk_cell BK383.out 2).trans rfl
       have hcz225_3 : wc.cell? ⟨gb383, 3, none⟩ = some (.int .i64 t380) := (blk_cell BK383.out 3).trans rfl
       have hcz225_4 : wc.cell? ⟨gb383, 4, none⟩ = some (.int .i64 t381) := (blk_cell BK383.out 4).trans rfl
       have hfz225_0 := blk_frozen BK383.out 0
       have hfz225_1 := blk_frozen BK383.out 1
       have hfz225_2 := blk_frozen BK383.out 2
       have hfz225_3 := blk_frozen BK383.out 3
       have hfz225_4 := blk_frozen BK383.out 4
       go_wp2_with (first | ((with_reducible refine gate_callee (f := 24) rfl ?_); refine goesL_ (some 66) rfl rfl Tryd.func24 (by kernel_rfl) rfl #[.agg #[.string t377, .int .i64 t378, .int .i64 t379, .int .i64 t380, .int .i64 t381], .int .i32 a2] rfl (by (try simp only [List.map_toArray, List.map_cons, List.map_nil]); first | done | rfl | (simp only [List.length_drop, List.length_take]; rfl)) ?_; (with_reducible refine (cell_Mark.calls kj10 t377 t378 t379 t380 t381 a2 t386 t387 t388 t389 t390 t391 _ A54.out).mono ?_); rintro e w226 ⟨rfl, hb⟩; refine ⟨_, rfl, ?_⟩; replace BK356 := Aside0.mk (bb hb BK356.out); replace BK363 := Aside0.mk (bb hb BK363.out); replace BK376 := Aside0.mk (bb hb BK376.out); replace BK383 := Aside0.mk (bb hb BK383.out); replace HB := Aside0.mk (below_step (by repeat first | refine below_set ?_ GE356.out | refine below_set ?_ GE363.out | refine below_set ?_ GE376.out | refine below_set ?_ GE383.out | exact HB.out | apply below_alloc | apply pw_below_drewN | apply below_drew1) hb); (try clear hb); (try clear hb2); (try clear hk); (try clear hi)) | ((with_reducible refine gate_dst (N := 17) rfl ?_); (try (refine gate_guard (by rfl) ?_; dsimp only)); refine box_event ?hg (N := 17) ?hd (cs := #[.string (⟨#[]⟩ : ByteArray), .int .i64 0, .int .i64 0, .int .i64 0, .int .i64 0]) (t := 40) ?hr ?_; (case hd => rfl); (case hg => rfl); (case hr => first | (go_simp; done) | (go_simp; rfl)); intro gb392 hg w227 hbox hb; have BK392 := Aside0.mk (hbox); have GW392 := Aside0.mk ((by rw [hg]; exact (below_size (by repeat first | refine below_set ?_ GE356.out | refine below_set ?_ GE363.out | refine below_set ?_ GE376.out | refine below_set ?_ GE383.out | exact HB.out | apply below_alloc | apply pw_below_drewN | apply below_drew1)) : w.heap.size ≤ gb392)); have GE392 := GW392; have NB356_392 := Aside0.mk ((by rw [hg]; exact lt1 BK356.out : gb356 ≠ gb392)); have NB392_356 := Aside0.mk ((by rw [hg]; exact gt1 BK356.out : gb392 ≠ gb356)); have NB363_392 := Aside0.mk ((by rw [hg]; exact lt1 BK363.out : gb363 ≠ gb392)); have NB392_363 := Aside0.mk ((by rw [hg]; exact gt1 BK363.out : gb392 ≠ gb363)); have NB376_392 := Aside0.mk ((by rw [hg]; exact lt1 BK376.out : gb376 ≠ gb392)); have NB392_376 := Aside0.mk ((by rw [hg]; exact gt1 BK376.out : gb392 ≠ gb376)); have NB383_392 := Aside0.mk ((by rw [hg]; exact lt1 BK383.out : gb383 ≠ gb392)); have NB392_383 := Aside0.mk ((by rw [hg]; exact gt1 BK383.out : gb392 ≠ gb383)); replace BK356 := Aside0.mk (bb hb BK356.out); replace BK363 := Aside0.mk (bb hb BK363.out); replace BK376 := Aside0.mk (bb hb BK376.out); replace BK383 := Aside0.mk (bb hb BK383.out); replace HB := Aside0.mk (below_step (by repeat first | refine below_set ?_ GE356.out | refine below_set ?_ GE363.out | refine below_set ?_ GE376.out | refine below_set ?_ GE383.out | exact HB.out | apply below_alloc | apply pw_below_drewN | apply below_drew1) hb); clear hb hbox hg; have hnb228 := NB392_356.out; have hnc228 := NB356_392.out; have hnb229 := NB392_363.out; have hnc229 := NB363_392.out; have hnb230 := NB392_376.out; have hnc230 := NB376_392.out; have hnb231 := NB392_383.out; have hnc231 := NB383_392.out; obtain ⟨hcz232_0, hcz232_1, hcz232_2, hcz232_3, hcz232_4, hfz232_0, hfz232_1, hfz232_2, hfz232_3, hfz232_4⟩ := cz5 BK392.out))
       go_ret
       exact ⟨by first | rfl | (simp [errW_none, errW_some] <;> rfl) | (simp [*, errW_none, errW_some] <;> rfl), by repeat first | refine below_set ?_ GE356.out | refine below_set ?_ GE363.out | refine below_set ?_ GE376.out | refine below_set ?_ GE383.out | refine below_set ?_ GE392.out | exact HB.out | apply below_alloc | apply pw_below_drewN | apply below_drew1⟩
     ·rw [if_neg c53] at H
      have c53b0 : (t382 == 0) = false := beq_eq_false_iff_ne.mpr c53
      have c53b1 : (t382 != 0) = true := bne_iff_ne.mpr c53
      obtain rfl := Option.some.inj H
      go_wp2
      go_ret
      exact ⟨by first | rfl | (simp [errW_none, errW_some] <;> rfl) | (simp [*, errW_none, errW_some] <;> rfl), by repeat first | refine below_set ?_ GE356.out | refine below_set ?_ GE363.out | refine below_set ?_ GE376.out | refine below_set ?_ GE383.out | exact HB.out | apply below_alloc | apply pw_below_drewN | apply below_drew1⟩
 ·rw [if_neg c7] at H
  have c7b0 : (t362 == 0) = false := beq_eq_false_iff_ne.mpr c7
  have c7b1 : (t362 != 0) = true := bne_iff_ne.mpr c7
  replace H := Option.bind_eq_some_iff.mp H
  obtain ⟨t364, A2330, H⟩ := H
  replace H : (if t364 = true then (some (t357.toList == ([] : List UInt8) && (t358 == 0 && ((t359 == 0 && (t360 == 0 && (t361 == 0))))))) else (some false)) = some r := H
  have A233 := Aside0.mk A2330
  clear A2330
  by_cases c234 : t364 = true
  ·subst c234
   have H1 : (some (t357.toList == ([] : List UInt8) && (t358 == 0 && ((t359 == 0 && (t360 == 0 && (t361 == 0))))))) = some r := by rw [if_pos rfl] at H; exact H
   clear H
   have H := H1
   clear H1
   obtain rfl := Option.some.inj H
   go_enter Tryd.func8, Tryd.ntmps8
   go_wp2_with (first | ((with_reducible refine gate_dst (N := 9) rfl ?_); (try (refine gate_guard (by rfl) ?_; dsimp only)); refine box_event ?hg (N := 9) ?hd (cs := #[.int .i64 a4_0, .int .i64 a4_1, .int .i64 a4_2]) (t := 38) ?hr ?_; (case hd => rfl); (case hg => rfl); (case hr => first | (go_simp; done) | (go_simp; rfl)); intro gb356 hg w235 hbox hb; have BK356 := Aside0.mk (hbox); have GW356 := Aside0.mk ((by rw [hg]; exact (below_size (by first | exact HB.out | exact pw_below_drewN HB.out _ | exact below_drew1 HB.out)) : w.heap.size ≤ gb356)); have GE356 := GW356; replace HB := Aside0.mk (below_step (by first | exact HB.out | exact pw_below_drewN HB.out _ | exact below_drew1 HB.out) hb); clear hb hbox hg; obtain ⟨hcz236_0, hcz236_1, hcz236_2, hfz236_0, hfz236_1, hfz236_2⟩ := cz3 BK356.out) | ((with_reducible refine gate_callee (f := 23) rfl ?_); refine goesL_ (some 24) rfl rfl Tryd.func23 (by kernel_rfl) rfl #[.int .i32 a0, .agg #[.int .i64 a4_0, .int .i64 a4_1, .int .i64 a4_2]] rfl (by (try simp only [List.map_toArray, List.map_cons, List.map_nil]); first | done | rfl | (simp only [List.length_drop, List.length_take]; rfl)) ?_; (with_reducible refine (cell_Of.calls a0 a4_0 a4_1 a4_2 t357 t358 t359 t360 t361 t362 _ A6.out).mono ?_); rintro e w237 ⟨rfl, hb⟩; refine ⟨_, rfl, ?_⟩; replace BK356 := Aside0.mk (bb hb BK356.out); replace HB := Aside0.mk (below_step (by repeat first | refine below_set ?_ GE356.out | exact HB.out | apply below_alloc | apply pw_below_drewN | apply below_drew1) hb); (try clear hb); (try clear hb2); (try clear hk); (try clear hi)) | ((with_reducible refine gate_dst (N := 11) rfl ?_); (try (refine gate_guard (by rfl) ?_; dsimp only)); refine box_event ?hg (N := 11) ?hd (cs := #[.string (⟨#[]⟩ : ByteArray), .int .i64 0, .int .i64 0, .int .i64 0, .int .i64 0]) (t := 40) ?hr ?_; (case hd => rfl); (case hg => rfl); (case hr => first | (go_simp; done) | (go_simp; rfl)); intro gb363 hg w238 hbox hb; have BK363 := Aside0.mk (hbox); have GW363 := Aside0.mk ((by rw [hg]; exact (below_size (by repeat first | refine below_set ?_ GE356.out | exact HB.out | apply below_alloc | apply pw_below_drewN | apply below_drew1)) : w.heap.size ≤ gb363)); have GE363 := GW363; have NB356_363 := Aside0.mk ((by rw [hg]; exact lt1 BK356.out : gb356 ≠ gb363)); have NB363_356 := Aside0.mk ((by rw [hg]; exact gt1 BK356.out : gb363 ≠ gb356)); replace BK356 := Aside0.mk (bb hb BK356.out); replace HB := Aside0.mk (below_step (by repeat first | refine below_set ?_ GE356.out | exact HB.out | apply below_alloc | apply pw_below_drewN | apply below_drew1) hb); clear hb hbox hg; have hnb239 := NB363_356.out; have hnc239 := NB356_363.out; obtain ⟨hcz240_0, hcz240_1, hcz240_2, hcz240_3, hcz240_4, hfz240_0, hfz240_1, hfz240_2, hfz240_3, hfz240_4⟩ := cz5 BK363.out) | ((with_reducible refine gate_callee (f := 29) rfl ?_); refine goesL_ (some 29) rfl rfl Tryd.func29 (by kernel_rfl) rfl #[] rfl (by (try simp only [List.map_toArray, List.map_cons, List.map_nil]); first | done | rfl | (simp only [List.length_drop, List.length_take]; rfl)) ?_; (with_reducible refine (backseatlaw04_alive.calls k  true _ A233.out).mono ?_); rintro e w241 ⟨rfl, hb⟩; refine ⟨_, rfl, ?_⟩; replace BK356 := Aside0.mk (bb hb (far5 NB356_363.out BK356.out)); replace BK363 := Aside0.mk (bb hb (put5 BK363.out)); replace HB := Aside0.mk (below_step (by repeat first | refine below_set ?_ GE356.out | refine below_set ?_ GE363.out | exact HB.out | apply below_alloc | apply pw_below_drewN | apply below_drew1) hb); (try clear hb); (try clear hb2); (try clear hk); (try clear hi); obtain ⟨hcz242_0, hcz242_1, hcz242_2, hcz242_3, hcz242_4, hfz242_0, hfz242_1, hfz242_2, hfz242_3, hfz242_4⟩ := cz5 BK363.out))
   go_ret
   exact ⟨by first | rfl | (simp [errW_none, errW_some] <;> rfl) | (simp [*, errW_none, errW_some] <;> rfl), by repeat first | refine below_set ?_ GE356.out | refine below_set ?_ GE363.out | exact HB.out | apply below_alloc | apply pw_below_drewN | apply below_drew1⟩
  ·replace c234 := Bool.eq_false_iff.mpr c234
   subst c234
   have H1 : (some false) = some r := by rw [if_neg (show ¬ (false = true) by decide)] at H; exact H
   clear H
   have H := H1
   clear H1
   obtain rfl := Option.some.inj H
   go_enter Tryd.func8, Tryd.ntmps8
   go_wp2_with (first | ((with_reducible refine gate_dst (N := 9) rfl ?_); (try (refine gate_guard (by rfl) ?_; dsimp only)); refine box_event ?hg (N := 9) ?hd (cs := #[.int .i64 a4_0, .int .i64 a4_1, .int .i64 a4_2]) (t := 38) ?hr ?_; (case hd => rfl); (case hg => rfl); (case hr => first | (go_simp; done) | (go_simp; rfl)); intro gb356 hg w243 hbox hb; have BK356 := Aside0.mk (hbox); have GW356 := Aside0.mk ((by rw [hg]; exact (below_size (by first | exact HB.out | exact pw_below_drewN HB.out _ | exact below_drew1 HB.out)) : w.heap.size ≤ gb356)); have GE356 := GW356; replace HB := Aside0.mk (below_step (by first | exact HB.out | exact pw_below_drewN HB.out _ | exact below_drew1 HB.out) hb); clear hb hbox hg; obtain ⟨hcz244_0, hcz244_1, hcz244_2, hfz244_0, hfz244_1, hfz244_2⟩ := cz3 BK356.out) | ((with_reducible refine gate_callee (f := 23) rfl ?_); refine goesL_ (some 24) rfl rfl Tryd.func23 (by kernel_rfl) rfl #[.int .i32 a0, .agg #[.int .i64 a4_0, .int .i64 a4_1, .int .i64 a4_2]] rfl (by (try simp only [List.map_toArray, List.map_cons, List.map_nil]); first | done | rfl | (simp only [List.length_drop, List.length_take]; rfl)) ?_; (with_reducible refine (cell_Of.calls a0 a4_0 a4_1 a4_2 t357 t358 t359 t360 t361 t362 _ A6.out).mono ?_); rintro e w245 ⟨rfl, hb⟩; refine ⟨_, rfl, ?_⟩; replace BK356 := Aside0.mk (bb hb BK356.out); replace HB := Aside0.mk (below_step (by repeat first | refine below_set ?_ GE356.out | exact HB.out | apply below_alloc | apply pw_below_drewN | apply below_drew1) hb); (try clear hb); (try clear hb2); (try clear hk); (try clear hi)) | ((with_reducible refine gate_dst (N := 11) rfl ?_); (try (refine gate_guard (by rfl) ?_; dsimp only)); refine box_event ?hg (N := 11) ?hd (cs := #[.string (⟨#[]⟩ : ByteArray), .int .i64 0, .int .i64 0, .int .i64 0, .int .i64 0]) (t := 40) ?hr ?_; (case hd => rfl); (case hg => rfl); (case hr => first | (go_simp; done) | (go_simp; rfl)); intro gb363 hg w246 hbox hb; have BK363 := Aside0.mk (hbox); have GW363 := Aside0.mk ((by rw [hg]; exact (below_size (by repeat first | refine below_set ?_ GE356.out | exact HB.out | apply below_alloc | apply pw_below_drewN | apply below_drew1)) : w.heap.size ≤ gb363)); have GE363 := GW363; have NB356_363 := Aside0.mk ((by rw [hg]; exact lt1 BK356.out : gb356 ≠ gb363)); have NB363_356 := Aside0.mk ((by rw [hg]; exact gt1 BK356.out : gb363 ≠ gb356)); replace BK356 := Aside0.mk (bb hb BK356.out); replace HB := Aside0.mk (below_step (by repeat first | refine below_set ?_ GE356.out | exact HB.out | apply below_alloc | apply pw_below_drewN | apply below_drew1) hb); clear hb hbox hg; have hnb247 := NB363_356.out; have hnc247 := NB356_363.out; obtain ⟨hcz248_0, hcz248_1, hcz248_2, hcz248_3, hcz248_4, hfz248_0, hfz248_1, hfz248_2, hfz248_3, hfz248_4⟩ := cz5 BK363.out) | ((with_reducible refine gate_callee (f := 29) rfl ?_); refine goesL_ (some 29) rfl rfl Tryd.func29 (by kernel_rfl) rfl #[] rfl (by (try simp only [List.map_toArray, List.map_cons, List.map_nil]); first | done | rfl | (simp only [List.length_drop, List.length_take]; rfl)) ?_; (with_reducible refine (backseatlaw04_alive.calls k  false _ A233.out).mono ?_); rintro e w249 ⟨rfl, hb⟩; refine ⟨_, rfl, ?_⟩; replace BK356 := Aside0.mk (bb hb (far5 NB356_363.out BK356.out)); replace BK363 := Aside0.mk (bb hb (put5 BK363.out)); replace HB := Aside0.mk (below_step (by repeat first | refine below_set ?_ GE356.out | refine below_set ?_ GE363.out | exact HB.out | apply below_alloc | apply pw_below_drewN | apply below_drew1) hb); (try clear hb); (try clear hb2); (try clear hk); (try clear hi)))
   go_ret
   exact ⟨by first | rfl | (simp [errW_none, errW_some] <;> rfl) | (simp [*, errW_none, errW_some] <;> rfl), by repeat first | refine below_set ?_ GE356.out | refine below_set ?_ GE363.out | exact HB.out | apply below_alloc | apply pw_below_drewN | apply below_drew1⟩
end Go.Proofs.YthipdgnbpdngpaaDoor.P
