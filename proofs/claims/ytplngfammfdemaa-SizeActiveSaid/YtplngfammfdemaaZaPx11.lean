-- A copy of the text YtplngfammfdemaaPx11 with what this claim does not reach left out (prune.py, a program of this project).
import Derived.Test.YtplngfammfdemaaZaPx0
import Derived.Test.YtplngfammfdemaaZaPx1
import Derived.Test.YtplngfammfdemaaZaPx3
import Derived.Test.YtplngfammfdemaaZaPx5
import Derived.Test.YtplngfammfdemaaZaPx8
import Derived.Test.YtplngfammfdemaaZaGLatest
import Derived.Test.YtplngfammfdemaaZaGShort
namespace Go.Proofs.Ytplngfammfdemaa.P
open Go.RowKit Go.Proofs.Ytplngfammfdemaa Go.Proofs.YtplngfammfdemaaW.PrintWords Go.Proofs.YtplngfammfdemaaW.PrintLast Go.Proofs.YtplngfammfdemaaW.PrintMore
attribute [local go_sem] max2_int min2_int max_two min_two max_three min_three max_four min_four   -- for this text's walks alone
set_option linter.unusedVariables false
set_option linter.unusedSimpArgs false
attribute [local go_sem high] eqA48
def m9_0_ : Array Bool := mk_ 21 1
def m9_1_ : Array Bool := mk_ 21 65
def m9_2_ : Array Bool := mk_ 21 4161
def m9_3_ : Array Bool := mk_ 21 4163
def m9_4_ : Array Bool := mk_ 21 4167
def m9_5_ : Array Bool := mk_ 21 4175
def m9_6_ : Array Bool := mk_ 21 4191
def m9_7_ : Array Bool := mk_ 21 4223
def m9_8_ : Array Bool := mk_ 21 266367
def m9_9_ : Array Bool := mk_ 21 266495
def m9_10_ : Array Bool := mk_ 21 266751
def m9_11_ : Array Bool := mk_ 21 267263
def m9_12_ : Array Bool := mk_ 21 268287
def m9_13_ : Array Bool := mk_ 21 270335
def m9_14_ : Array Bool := mk_ 21 794623
def m9_15_ : Array Bool := mk_ 21 802815
def m9_16_ : Array Bool := mk_ 21 819199
def m9_17_ : Array Bool := mk_ 21 851967
def m9_18_ : Array Bool := mk_ 21 917503
def m9_19_ : Array Bool := mk_ 21 1048575
def m9_20_ : Array Bool := mk_ 21 2097151
def m9_21_ : Array Bool := mk_ 12 1
def m9_22_ : Array Bool := mk_ 12 3
def m9_23_ : Array Bool := mk_ 12 7
def m9_24_ : Array Bool := mk_ 12 15
def m9_25_ : Array Bool := mk_ 12 47
def m9_26_ : Array Bool := mk_ 12 111
def m9_27_ : Array Bool := mk_ 12 239
def m9_28_ : Array Bool := mk_ 12 495
def m9_29_ : Array Bool := mk_ 12 511
def m9_30_ : Array Bool := mk_ 12 1535
def m9_31_ : Array Bool := mk_ 12 2047
def m9_32_ : Array Bool := mk_ 12 4095
def m9_33_ : Array Bool := mk_ 29 1
def m9_34_ : Array Bool := mk_ 29 3
def m9_35_ : Array Bool := mk_ 29 7
def m9_36_ : Array Bool := mk_ 29 15
def m9_37_ : Array Bool := mk_ 29 31
def m9_38_ : Array Bool := mk_ 29 63
def m9_39_ : Array Bool := mk_ 29 127
def m9_40_ : Array Bool := mk_ 29 255
def m9_41_ : Array Bool := mk_ 29 511
def m9_42_ : Array Bool := mk_ 29 1023
def m9_43_ : Array Bool := mk_ 29 2047
def m9_44_ : Array Bool := mk_ 29 4095
def m9_45_ : Array Bool := mk_ 29 8191
def m9_46_ : Array Bool := mk_ 29 16383
def m9_47_ : Array Bool := mk_ 29 32767
def m9_48_ : Array Bool := mk_ 29 65535
def m9_49_ : Array Bool := mk_ 29 131071
def m9_50_ : Array Bool := mk_ 29 262143
def m9_51_ : Array Bool := mk_ 29 786431
def m9_52_ : Array Bool := mk_ 29 1835007
def m9_53_ : Array Bool := mk_ 29 3932159
def m9_54_ : Array Bool := mk_ 29 8126463
def m9_55_ : Array Bool := mk_ 29 16515071
def m9_56_ : Array Bool := mk_ 29 16777215
def m9_57_ : Array Bool := mk_ 29 33554431
def m9_58_ : Array Bool := mk_ 29 67108863
def m9_59_ : Array Bool := mk_ 29 134217727
def m9_60_ : Array Bool := mk_ 29 268435455
def m9_61_ : Array Bool := mk_ 29 536870911
def m9_62_ : Array Bool := mk_ 29 524287
def m9_63_ : Array Bool := mk_ 29 1048575
def m9_64_ : Array Bool := mk_ 29 2097151
def m9_65_ : Array Bool := mk_ 29 4194303
def m9_66_ : Array Bool := mk_ 29 8388607
mutual
def backseatlaw16_SizeActive.l0 : Nat → List (S48) → List (S48) → Int → List (S71) → Int → Int → Option (Bool)
 | 0, _, _, _, _, _, _ => none
 | k + 1, x3, x4, x5, x21, x22, x23 => if x23 < x22 then (if 0 ≤ x23 then (if x23 < (x21.length : Int) then (if x23 ≥ 40 then ((backseatlaw16_alive.f k).bind fun t360 => (some t360)) else (backseatlaw16_SizeActive.l1 k x3 x4 (wrap64 (x5 + (wrap64 (1 + (Int.tmod (wrap64 ((Int.tmod ((rd_T71 x21 x23).f4) 9) + 9)) 9))))) (wrap64 (1 + (Int.tmod (wrap64 ((Int.tmod ((rd_T71 x21 x23).f1) 9) + 9)) 9))) (wrap64 (1 + (Int.tmod (wrap64 ((Int.tmod ((rd_T71 x21 x23).f2) 80) + 80)) 80))) (wrap64 (2 + (Int.tmod (wrap64 ((Int.tmod ((rd_T71 x21 x23).f3) 49) + 49)) 49))) (-1) x21 x22 x23 x4 (x4.length : Int) 0 ((rd_T71 x21 x23).f0) ((rd_T71 x21 x23).f1) ((rd_T71 x21 x23).f2) ((rd_T71 x21 x23).f3) ((rd_T71 x21 x23).f4))) else (none)) else (none)) else ((backseatlaw16_alive.f k).bind fun t357 => (some t357))
def backseatlaw16_SizeActive.l1 : Nat → List (S48) → List (S48) → Int → Int → Int → Int → Int → List (S71) → Int → Int → List (S48) → Int → Int → Int → Int → Int → Int → Int → Option (Bool)
 | 0, _, _, _, _, _, _, _, _, _, _, _, _, _, _, _, _, _, _ => none
 | k + 1, x3, x4, x5, x8, x9, x10, x13, x21, x22, x23, x56, x57, x58, x360000, x360001, x360002, x360003, x360004 => if x58 < x57 then (if 0 ≤ x58 then (if x58 < (x56.length : Int) then (if ((rd_T48 x56 x58).f0) = x8 then (backseatlaw16_SizeActive.l1 k x3 x4 x5 x8 x9 x10 x58 x21 x22 x23 x56 x57 (wrap64 (x58 + 1)) x360000 x360001 x360002 x360003 x360004) else (backseatlaw16_SizeActive.l1 k x3 x4 x5 x8 x9 x10 x13 x21 x22 x23 x56 x57 (wrap64 (x58 + 1)) x360000 x360001 x360002 x360003 x360004)) else (none)) else (none)) else (if (Int.tmod (wrap64 ((Int.tmod x360000 3) + 3)) 3) = 0 then ((size_Sit.f k x3 x8 x9 x10 x5).bind fun bt363 => (if bt363.2 = 0 then (backseatlaw16_SizeActive.j2 k x3 x4 x5 x8 x9 x10 bt363.1 bt363.2 x21 x22 x23 x360000 x360001 x360002 x360003 x360004) else (if x13 ≥ 0 then (some false) else (if (x4.length : Int) < 6 then (some false) else (backseatlaw16_SizeActive.j2 k x3 x4 x5 x8 x9 x10 bt363.1 bt363.2 x21 x22 x23 x360000 x360001 x360002 x360003 x360004))))) else (if (Int.tmod (wrap64 ((Int.tmod x360000 3) + 3)) 3) = 1 then ((size_Touch.f k x3 x8 x5).bind fun bt367 => (if ((bt367.2 == 0) != (decide (x13 ≥ 0))) = true then (some false) else (if x13 ≥ 0 then (if 0 ≤ x13 then (if x13 < (x4.length : Int) then (backseatlaw16_SizeActive.j2 k x3 x4 x5 x8 ((rd_T48 x4 x13).f1) ((rd_T48 x4 x13).f2) bt367.1 bt367.2 x21 x22 x23 x360000 x360001 x360002 x360003 x360004) else (none)) else (none)) else (backseatlaw16_SizeActive.j2 k x3 x4 x5 x8 x9 x10 bt367.1 bt367.2 x21 x22 x23 x360000 x360001 x360002 x360003 x360004)))) else ((size_Leave.f k x3 x8).bind fun bt373 => (if ((bt373.2 == 0) != (decide (x13 ≥ 0))) = true then (some false) else (backseatlaw16_SizeActive.j2 k x3 x4 x5 x8 x9 x10 bt373.1 bt373.2 x21 x22 x23 x360000 x360001 x360002 x360003 x360004)))))
def backseatlaw16_SizeActive.j2 : Nat → List (S48) → List (S48) → Int → Int → Int → Int → List (S48) → Int → List (S71) → Int → Int → Int → Int → Int → Int → Int → Option (Bool)
 | 0, _, _, _, _, _, _, _, _, _, _, _, _, _, _, _, _ => none
 | k + 1, x3, x4, x5, x8, x9, x10, x11, x12, x21, x22, x23, x360000, x360001, x360002, x360003, x360004 => if x12 = 0 then (backseatlaw16_SizeActive.l2 k x11 x5 x8 x9 x10 ([] : List (S48)) x21 x22 x23 x4 (x4.length : Int) 0 x360000 x360001 x360002 x360003 x360004) else (backseatlaw16_SizeActive.l0 k x3 x4 x5 x21 x22 (wrap64 (x23 + 1)))
def backseatlaw16_SizeActive.l2 : Nat → List (S48) → Int → Int → Int → Int → List (S48) → List (S71) → Int → Int → List (S48) → Int → Int → Int → Int → Int → Int → Int → Option (Bool)
 | 0, _, _, _, _, _, _, _, _, _, _, _, _, _, _, _, _, _ => none
 | k + 1, x3, x5, x8, x9, x10, x16, x21, x22, x23, x136, x137, x138, x360000, x360001, x360002, x360003, x360004 => if x138 < x137 then (if 0 ≤ x138 then (if x138 < (x136.length : Int) then (if ((rd_T48 x136 x138).f0) = x8 then (backseatlaw16_SizeActive.l2 k x3 x5 x8 x9 x10 x16 x21 x22 x23 x136 x137 (wrap64 (x138 + 1)) x360000 x360001 x360002 x360003 x360004) else (if x16.length < 4398046511104 then (backseatlaw16_SizeActive.l2 k x3 x5 x8 x9 x10 (x16 ++ [(⟨(rd_T48 x136 x138).f0, (rd_T48 x136 x138).f1, (rd_T48 x136 x138).f2, (rd_T48 x136 x138).f3⟩ : S48)]) x21 x22 x23 x136 x137 (wrap64 (x138 + 1)) x360000 x360001 x360002 x360003 x360004) else (none))) else (none)) else (none)) else (if (Int.tmod (wrap64 ((Int.tmod x360000 3) + 3)) 3) < 2 then (if x16.length < 4398046511104 then (backseatlaw16_SizeActive.j4 k x3 x5 (x16 ++ [(⟨x8, x9, x10, x5⟩ : S48)]) x21 x22 x23) else (none)) else (backseatlaw16_SizeActive.j4 k x3 x5 x16 x21 x22 x23))
def backseatlaw16_SizeActive.j4 : Nat → List (S48) → Int → List (S48) → List (S71) → Int → Int → Option (Bool)
 | 0, _, _, _, _, _, _ => none
 | k + 1, x3, x5, x16, x21, x22, x23 => (size_Latest.f x3).bind fun bt385 => ((size_Right.f k x3).bind fun t391 => (if t391 = true then (if (x3.length : Int) = (x16.length : Int) then (if (x16.length : Int) > 0 then (if bt385.2.2.2.2 = 0 then (if 0 ≤ (wrap64 ((x16.length : Int) - 1)) then (if (wrap64 ((x16.length : Int) - 1)) < (x16.length : Int) then (if (!(bt385.1 == ((rd_T48 x16 (wrap64 ((x16.length : Int) - 1))).f0)) || (!(bt385.2.1 == ((rd_T48 x16 (wrap64 ((x16.length : Int) - 1))).f1)) || (!(bt385.2.2.1 == ((rd_T48 x16 (wrap64 ((x16.length : Int) - 1))).f2)) || (!(bt385.2.2.2.1 == ((rd_T48 x16 (wrap64 ((x16.length : Int) - 1))).f3)))))) = true then (some false) else (backseatlaw16_SizeActive.l0 k x3 x16 x5 x21 x22 (wrap64 (x23 + 1)))) else (none)) else (none)) else (some false)) else (backseatlaw16_SizeActive.l0 k x3 x16 x5 x21 x22 (wrap64 (x23 + 1)))) else (some false)) else (some false)))
end
def backseatlaw16_SizeActive.f (k : Nat) (l0 : List (S71)) : Option (Bool) := backseatlaw16_SizeActive.l0 k ([] : List (S48)) ([] : List (S48)) 0 l0 (l0.length : Int) 0
theorem backseatlaw16_SizeActive.mono_l : ∀ k, (∀ y0 y1 y2 y3 y4 y5, LeO (backseatlaw16_SizeActive.l0 k y0 y1 y2 y3 y4 y5) (backseatlaw16_SizeActive.l0 (k + 1) y0 y1 y2 y3 y4 y5)) ∧ (∀ y0 y1 y2 y3 y4 y5 y6 y7 y8 y9 y10 y11 y12 y13 y14 y15 y16 y17, LeO (backseatlaw16_SizeActive.l1 k y0 y1 y2 y3 y4 y5 y6 y7 y8 y9 y10 y11 y12 y13 y14 y15 y16 y17) (backseatlaw16_SizeActive.l1 (k + 1) y0 y1 y2 y3 y4 y5 y6 y7 y8 y9 y10 y11 y12 y13 y14 y15 y16 y17)) ∧ (∀ y0 y1 y2 y3 y4 y5 y6 y7 y8 y9 y10 y11 y12 y13 y14 y15, LeO (backseatlaw16_SizeActive.j2 k y0 y1 y2 y3 y4 y5 y6 y7 y8 y9 y10 y11 y12 y13 y14 y15) (backseatlaw16_SizeActive.j2 (k + 1) y0 y1 y2 y3 y4 y5 y6 y7 y8 y9 y10 y11 y12 y13 y14 y15)) ∧ (∀ y0 y1 y2 y3 y4 y5 y6 y7 y8 y9 y10 y11 y12 y13 y14 y15 y16, LeO (backseatlaw16_SizeActive.l2 k y0 y1 y2 y3 y4 y5 y6 y7 y8 y9 y10 y11 y12 y13 y14 y15 y16) (backseatlaw16_SizeActive.l2 (k + 1) y0 y1 y2 y3 y4 y5 y6 y7 y8 y9 y10 y11 y12 y13 y14 y15 y16)) ∧ (∀ y0 y1 y2 y3 y4 y5, LeO (backseatlaw16_SizeActive.j4 k y0 y1 y2 y3 y4 y5) (backseatlaw16_SizeActive.j4 (k + 1) y0 y1 y2 y3 y4 y5))
 | 0 => ⟨fun _ _ _ _ _ _ r h => by simp [backseatlaw16_SizeActive.l0] at h, fun _ _ _ _ _ _ _ _ _ _ _ _ _ _ _ _ _ _ r h => by simp [backseatlaw16_SizeActive.l1] at h, fun _ _ _ _ _ _ _ _ _ _ _ _ _ _ _ _ r h => by simp [backseatlaw16_SizeActive.j2] at h, fun _ _ _ _ _ _ _ _ _ _ _ _ _ _ _ _ _ r h => by simp [backseatlaw16_SizeActive.l2] at h, fun _ _ _ _ _ _ r h => by simp [backseatlaw16_SizeActive.j4] at h⟩
 | k + 1 => by
  obtain ⟨ih0, ih1, ih2, ih3, ih4⟩ := backseatlaw16_SizeActive.mono_l k
  refine ⟨?_, ?_, ?_, ?_, ?_⟩
  ·intro y0 y1 y2 y3 y4 y5
   unfold backseatlaw16_SizeActive.l0
   repeat' first
   | (with_reducible exact ih0 _ _ _ _ _ _)
   | (with_reducible exact ih1 _ _ _ _ _ _ _ _ _ _ _ _ _ _ _ _ _ _)
   | (with_reducible exact ih2 _ _ _ _ _ _ _ _ _ _ _ _ _ _ _ _)
   | (with_reducible exact ih3 _ _ _ _ _ _ _ _ _ _ _ _ _ _ _ _ _)
   | (with_reducible exact ih4 _ _ _ _ _ _)
   | (with_reducible exact backseatlaw16_alive.mono _)
   | (with_reducible exact size_Leave.mono _ _ _)
   | (with_reducible exact size_Right.mono _ _)
   | (with_reducible exact size_Sit.mono _ _ _ _ _ _)
   | (with_reducible exact size_Touch.mono _ _ _ _)
   | (with_reducible exact LeO.refl _)
   | (with_reducible exact LeO.none _)
   | (with_reducible refine LeO.ite ?_ ?_)
   | (with_reducible refine LeO.bind ?_ (fun _ => ?_))
   | exact ih0 _ _ _ _ _ _
   | exact ih1 _ _ _ _ _ _ _ _ _ _ _ _ _ _ _ _ _ _
   | exact ih2 _ _ _ _ _ _ _ _ _ _ _ _ _ _ _ _
   | exact ih3 _ _ _ _ _ _ _ _ _ _ _ _ _ _ _ _ _
   | exact ih4 _ _ _ _ _ _
   | exact backseatlaw16_alive.mono _
   | exact size_Leave.mono _ _ _
   | exact size_Right.mono _ _
   | exact size_Sit.mono _ _ _ _ _ _
   | exact size_Touch.mono _ _ _ _
   | exact LeO.none _
   | refine LeO.ite ?_ ?_
   | refine LeO.bind ?_ (fun _ => ?_)
  ·intro y0 y1 y2 y3 y4 y5 y6 y7 y8 y9 y10 y11 y12 y13 y14 y15 y16 y17
   unfold backseatlaw16_SizeActive.l1
   repeat' first
   | (with_reducible exact ih0 _ _ _ _ _ _)
   | (with_reducible exact ih1 _ _ _ _ _ _ _ _ _ _ _ _ _ _ _ _ _ _)
   | (with_reducible exact ih2 _ _ _ _ _ _ _ _ _ _ _ _ _ _ _ _)
   | (with_reducible exact ih3 _ _ _ _ _ _ _ _ _ _ _ _ _ _ _ _ _)
   | (with_reducible exact ih4 _ _ _ _ _ _)
   | (with_reducible exact backseatlaw16_alive.mono _)
   | (with_reducible exact size_Leave.mono _ _ _)
   | (with_reducible exact size_Right.mono _ _)
   | (with_reducible exact size_Sit.mono _ _ _ _ _ _)
   | (with_reducible exact size_Touch.mono _ _ _ _)
   | (with_reducible exact LeO.refl _)
   | (with_reducible exact LeO.none _)
   | (with_reducible refine LeO.ite ?_ ?_)
   | (with_reducible refine LeO.bind ?_ (fun _ => ?_))
   | exact ih0 _ _ _ _ _ _
   | exact ih1 _ _ _ _ _ _ _ _ _ _ _ _ _ _ _ _ _ _
   | exact ih2 _ _ _ _ _ _ _ _ _ _ _ _ _ _ _ _
   | exact ih3 _ _ _ _ _ _ _ _ _ _ _ _ _ _ _ _ _
   | exact ih4 _ _ _ _ _ _
   | exact backseatlaw16_alive.mono _
   | exact size_Leave.mono _ _ _
   | exact size_Right.mono _ _
   | exact size_Sit.mono _ _ _ _ _ _
   | exact size_Touch.mono _ _ _ _
   | exact LeO.none _
   | refine LeO.ite ?_ ?_
   | refine LeO.bind ?_ (fun _ => ?_)
  ·intro y0 y1 y2 y3 y4 y5 y6 y7 y8 y9 y10 y11 y12 y13 y14 y15
   unfold backseatlaw16_SizeActive.j2
   repeat' first
   | (with_reducible exact ih0 _ _ _ _ _ _)
   | (with_reducible exact ih1 _ _ _ _ _ _ _ _ _ _ _ _ _ _ _ _ _ _)
   | (with_reducible exact ih2 _ _ _ _ _ _ _ _ _ _ _ _ _ _ _ _)
   | (with_reducible exact ih3 _ _ _ _ _ _ _ _ _ _ _ _ _ _ _ _ _)
   | (with_reducible exact ih4 _ _ _ _ _ _)
   | (with_reducible exact backseatlaw16_alive.mono _)
   | (with_reducible exact size_Leave.mono _ _ _)
   | (with_reducible exact size_Right.mono _ _)
   | (with_reducible exact size_Sit.mono _ _ _ _ _ _)
   | (with_reducible exact size_Touch.mono _ _ _ _)
   | (with_reducible exact LeO.refl _)
   | (with_reducible exact LeO.none _)
   | (with_reducible refine LeO.ite ?_ ?_)
   | (with_reducible refine LeO.bind ?_ (fun _ => ?_))
   | exact ih0 _ _ _ _ _ _
   | exact ih1 _ _ _ _ _ _ _ _ _ _ _ _ _ _ _ _ _ _
   | exact ih2 _ _ _ _ _ _ _ _ _ _ _ _ _ _ _ _
   | exact ih3 _ _ _ _ _ _ _ _ _ _ _ _ _ _ _ _ _
   | exact ih4 _ _ _ _ _ _
   | exact backseatlaw16_alive.mono _
   | exact size_Leave.mono _ _ _
   | exact size_Right.mono _ _
   | exact size_Sit.mono _ _ _ _ _ _
   | exact size_Touch.mono _ _ _ _
   | exact LeO.none _
   | refine LeO.ite ?_ ?_
   | refine LeO.bind ?_ (fun _ => ?_)
  ·intro y0 y1 y2 y3 y4 y5 y6 y7 y8 y9 y10 y11 y12 y13 y14 y15 y16
   unfold backseatlaw16_SizeActive.l2
   repeat' first
   | (with_reducible exact ih0 _ _ _ _ _ _)
   | (with_reducible exact ih1 _ _ _ _ _ _ _ _ _ _ _ _ _ _ _ _ _ _)
   | (with_reducible exact ih2 _ _ _ _ _ _ _ _ _ _ _ _ _ _ _ _)
   | (with_reducible exact ih3 _ _ _ _ _ _ _ _ _ _ _ _ _ _ _ _ _)
   | (with_reducible exact ih4 _ _ _ _ _ _)
   | (with_reducible exact backseatlaw16_alive.mono _)
   | (with_reducible exact size_Leave.mono _ _ _)
   | (with_reducible exact size_Right.mono _ _)
   | (with_reducible exact size_Sit.mono _ _ _ _ _ _)
   | (with_reducible exact size_Touch.mono _ _ _ _)
   | (with_reducible exact LeO.refl _)
   | (with_reducible exact LeO.none _)
   | (with_reducible refine LeO.ite ?_ ?_)
   | (with_reducible refine LeO.bind ?_ (fun _ => ?_))
   | exact ih0 _ _ _ _ _ _
   | exact ih1 _ _ _ _ _ _ _ _ _ _ _ _ _ _ _ _ _ _
   | exact ih2 _ _ _ _ _ _ _ _ _ _ _ _ _ _ _ _
   | exact ih3 _ _ _ _ _ _ _ _ _ _ _ _ _ _ _ _ _
   | exact ih4 _ _ _ _ _ _
   | exact backseatlaw16_alive.mono _
   | exact size_Leave.mono _ _ _
   | exact size_Right.mono _ _
   | exact size_Sit.mono _ _ _ _ _ _
   | exact size_Touch.mono _ _ _ _
   | exact LeO.none _
   | refine LeO.ite ?_ ?_
   | refine LeO.bind ?_ (fun _ => ?_)
  ·intro y0 y1 y2 y3 y4 y5
   unfold backseatlaw16_SizeActive.j4
   repeat' first
   | (with_reducible exact ih0 _ _ _ _ _ _)
   | (with_reducible exact ih1 _ _ _ _ _ _ _ _ _ _ _ _ _ _ _ _ _ _)
   | (with_reducible exact ih2 _ _ _ _ _ _ _ _ _ _ _ _ _ _ _ _)
   | (with_reducible exact ih3 _ _ _ _ _ _ _ _ _ _ _ _ _ _ _ _ _)
   | (with_reducible exact ih4 _ _ _ _ _ _)
   | (with_reducible exact backseatlaw16_alive.mono _)
   | (with_reducible exact size_Leave.mono _ _ _)
   | (with_reducible exact size_Right.mono _ _)
   | (with_reducible exact size_Sit.mono _ _ _ _ _ _)
   | (with_reducible exact size_Touch.mono _ _ _ _)
   | (with_reducible exact LeO.refl _)
   | (with_reducible exact LeO.none _)
   | (with_reducible refine LeO.ite ?_ ?_)
   | (with_reducible refine LeO.bind ?_ (fun _ => ?_))
   | exact ih0 _ _ _ _ _ _
   | exact ih1 _ _ _ _ _ _ _ _ _ _ _ _ _ _ _ _ _ _
   | exact ih2 _ _ _ _ _ _ _ _ _ _ _ _ _ _ _ _
   | exact ih3 _ _ _ _ _ _ _ _ _ _ _ _ _ _ _ _ _
   | exact ih4 _ _ _ _ _ _
   | exact backseatlaw16_alive.mono _
   | exact size_Leave.mono _ _ _
   | exact size_Right.mono _ _
   | exact size_Sit.mono _ _ _ _ _ _
   | exact size_Touch.mono _ _ _ _
   | exact LeO.none _
   | refine LeO.ite ?_ ?_
   | refine LeO.bind ?_ (fun _ => ?_)
theorem backseatlaw16_SizeActive.mono : ∀ a0 k, LeO (backseatlaw16_SizeActive.f k a0) (backseatlaw16_SizeActive.f (k + 1) a0) := by
 intro a0 k
 obtain ⟨ih0, ih1, ih2, ih3, ih4⟩ := backseatlaw16_SizeActive.mono_l k
 unfold backseatlaw16_SizeActive.f
 repeat' first
   | (with_reducible exact ih0 _ _ _ _ _ _)
   | (with_reducible exact ih1 _ _ _ _ _ _ _ _ _ _ _ _ _ _ _ _ _ _)
   | (with_reducible exact ih2 _ _ _ _ _ _ _ _ _ _ _ _ _ _ _ _)
   | (with_reducible exact ih3 _ _ _ _ _ _ _ _ _ _ _ _ _ _ _ _ _)
   | (with_reducible exact ih4 _ _ _ _ _ _)
   | (with_reducible exact backseatlaw16_alive.mono _)
   | (with_reducible exact size_Leave.mono _ _ _)
   | (with_reducible exact size_Right.mono _ _)
   | (with_reducible exact size_Sit.mono _ _ _ _ _ _)
   | (with_reducible exact size_Touch.mono _ _ _ _)
   | (with_reducible exact LeO.refl _)
   | (with_reducible exact LeO.none _)
   | (with_reducible refine LeO.ite ?_ ?_)
   | (with_reducible refine LeO.bind ?_ (fun _ => ?_))
   | exact ih0 _ _ _ _ _ _
   | exact ih1 _ _ _ _ _ _ _ _ _ _ _ _ _ _ _ _ _ _
   | exact ih2 _ _ _ _ _ _ _ _ _ _ _ _ _ _ _ _
   | exact ih3 _ _ _ _ _ _ _ _ _ _ _ _ _ _ _ _ _
   | exact ih4 _ _ _ _ _ _
   | exact backseatlaw16_alive.mono _
   | exact size_Leave.mono _ _ _
   | exact size_Right.mono _ _
   | exact size_Sit.mono _ _ _ _ _ _
   | exact size_Touch.mono _ _ _ _
   | exact LeO.none _
   | refine LeO.ite ?_ ?_
   | refine LeO.bind ?_ (fun _ => ?_)
def backseatlaw16_SizeActive.T9 : Bool × List (List Nat × List Nat) := (true, [([], []), ([0], [0]), ([1], [1]), ([2], [2]), ([3], [3]), ([4], [4]), ([], []), ([6], [6]), ([7], [7]), ([8], [8]), ([9], [9]), ([10], [10]), ([], []), ([12], [12]), ([13], [13]), ([14], [14]), ([15], [15]), ([16], [16]), ([5, 0, 1, 2, 3, 4, 5], [5]), ([11, 18, 0, 1, 2, 3, 4, 5, 6, 7, 8, 9, 10, 11, 18], [11]), ([17, 19, 0, 1, 2, 3, 4, 5, 6, 7, 8, 9, 10, 11, 12, 13, 14, 15, 16, 17, 18, 19], [17])])
def backseatlaw16_SizeActive.B9 : List Nat := [0, 1, 3, 7, 15, 31, 0, 64, 192, 448, 960, 1984, 0, 4096, 12288, 28672, 61440, 126976, 63, 266239, 1048575]
theorem backseatlaw16_SizeActive.tab9 : rtab .any (opsOf Try.f9 9) = backseatlaw16_SizeActive.T9 := by kernel_rfl
theorem backseatlaw16_SizeActive.bits9 : waitsOk backseatlaw16_SizeActive.T9.2 backseatlaw16_SizeActive.B9 = true := by kernel_rfl
def backseatlaw16_SizeActive.T32 : Bool × List (List Nat × List Nat) := (true, [([], []), ([], []), ([0, 1], [0, 1]), ([2], [2]), ([3], [3]), ([], []), ([], []), ([5, 6], [5, 6]), ([7], [7]), ([8], [8]), ([4, 0, 1, 2, 3, 4], [4]), ([9, 10, 0, 1, 2, 3, 4, 5, 6, 7, 8, 9, 10], [9])])
def backseatlaw16_SizeActive.B32 : List Nat := [0, 0, 3, 7, 15, 0, 0, 96, 224, 480, 31, 2047]
theorem backseatlaw16_SizeActive.tab32 : rtab .any (opsOf Try.f9 32) = backseatlaw16_SizeActive.T32 := by kernel_rfl
theorem backseatlaw16_SizeActive.bits32 : waitsOk backseatlaw16_SizeActive.T32.2 backseatlaw16_SizeActive.B32 = true := by kernel_rfl
def backseatlaw16_SizeActive.T46 : Bool × List (List Nat × List Nat) := (true, [([], []), ([0], [0]), ([1], [1]), ([2, 1], [2]), ([3], [3]), ([4, 3], [3, 4]), ([3], [3]), ([6, 3], [3, 6]), ([5, 7, 3], [3, 5, 7]), ([3, 8], [3, 8]), ([9, 3], [9]), ([10], [10]), ([11, 10], [10, 11]), ([12, 10], [10, 12]), ([13, 10, 10], [10, 13]), ([14], [14]), ([15, 14], [14, 15]), ([16, 14, 14], [14, 16]), ([17], [17]), ([17], [17]), ([17], [17]), ([20, 17], [17, 20]), ([21, 17], [17, 21]), ([19, 22, 17], [17, 19, 22]), ([23, 17], [17, 23]), ([18, 24, 17], [17, 18, 24]), ([17, 25, 14], [14, 17, 25]), ([14, 26, 10], [10, 14, 26]), ([10, 27], [10, 27])])
def backseatlaw16_SizeActive.B46 : List Nat := [0, 1, 3, 7, 15, 31, 15, 79, 255, 511, 1023, 2047, 4095, 8191, 16383, 32767, 65535, 131071, 262143, 262143, 262143, 1310719, 3407871, 8126463, 16515071, 33554431, 67108863, 134217727, 268435455]
theorem backseatlaw16_SizeActive.tab46 : rtab .any (opsOf Try.f9 46) = backseatlaw16_SizeActive.T46 := by kernel_rfl
theorem backseatlaw16_SizeActive.bits46 : waitsOk backseatlaw16_SizeActive.T46.2 backseatlaw16_SizeActive.B46 = true := by kernel_rfl
set_option maxHeartbeats 60000000 in
set_option maxRecDepth 100000 in
theorem backseatlaw16_SizeActive.calls (k : Nat) (A0 : Option Addr) (c0 : Nat) (l0 : List (S71)) (r : Bool) (w : World) (hr0 : Kd.C k71 w A0 l0.length l0) (hc0 : l0.length ≤ c0) (h : backseatlaw16_SizeActive.f k l0 = some r) :
  Calls Try.prog 9 #[.slice A0 l0.length c0] w fun e w' => e = .returned (.bool r) ∧ Below w.heap.size w w' := by
 have hu71 := Try.underlying71
 have hu48 := Try.underlying48
 have HR0 := Aside0.mk hr0
 have HC0 := Aside0.mk hc0
 clear hr0 hc0
 have HB := Aside0.mk (Below.refl w.heap.size w)
 have H : (backseatlaw16_SizeActive.l0 k ([] : List (S48)) ([] : List (S48)) 0 l0 (l0.length : Int) 0) = some r := h
 clear h
 have H' := Aside0.mk H
 clear H
 go_enter Try.func9, Try.ntmps9
 go_wp2
 go_loopg [3, 4, 5, 23] k (fun kq v3 v4 v5 v23 w' => ∃ (x3_1 : List (S48)) (x4_1 : List (S48)) (x5_1 : Int) (x23_1 : Int), v5 = .int .i64 x5_1 ∧ v23 = .int .i64 x23_1 ∧ Aside0 (backseatlaw16_SizeActive.l0 kq x3_1 x4_1 x5_1 l0 (l0.length : Int) x23_1 = some r) ∧ Aside0 (kq ≤ k) ∧ Aside0 (Kd.R k48 48 w' w.heap.size (fun k_ => some k_ ≠ (v4 : Value).ownBlock) v3 x3_1) ∧ Aside0 (Kd.R k48 48 w' w.heap.size (fun k_ => some k_ ≠ (v3 : Value).ownBlock) v4 x4_1) ∧ Aside0 (Below w.heap.size w w'))
 case atStart => exact ⟨(([] : List (S48))), (([] : List (S48))), (0), (0), (by first | rfl | (simp; done) | (simp [*]; done)), (by first | rfl | (simp; done) | (simp [*]; done)), H', ⟨Nat.le_refl _⟩, ⟨by first | exact Kd.R_nil _ _ _ _ _ | exact Kd.N_nil _ _ _ _ _ | exact Kd.V_nil _ _ _ _ _ | exact Kd.Q_nil _ _ _ _ _ | exact Kd.S_nil _ _ _ _ _⟩, ⟨by first | exact Kd.R_nil _ _ _ _ _ | exact Kd.N_nil _ _ _ _ _ | exact Kd.V_nil _ _ _ _ _ | exact Kd.Q_nil _ _ _ _ _ | exact Kd.S_nil _ _ _ _ _⟩, ⟨by first | exact HB.out | exact pw_below_drewN HB.out _ | exact below_drew1 HB.out⟩⟩
 case round =>
  clear H'
  obtain ⟨x3_1, x4_1, x5_1, x23_1, rfl, rfl, HA, HK1, HO_3, HO_4, HB⟩ := hrel
  cases gk with
  | zero => exact absurd HA.out (by simp [backseatlaw16_SizeActive.l0])
  | succ k1 =>
   have H := HA.out
   clear HA
   simp only [backseatlaw16_SizeActive.l0] at H
   by_cases c2 : x23_1 < (l0.length : Int)
   ·as_aux_lemma =>
    rw [if_pos c2] at H
    have c2b0 : decide (x23_1 < (l0.length : Int)) = true := decide_eq_true c2
    clear c2
    by_cases c3 : 0 ≤ x23_1
    ·as_aux_lemma =>
     rw [if_pos c3] at H
     have c3b0 : decide (0 ≤ x23_1) = true := decide_eq_true c3
     clear c3
     by_cases c4 : x23_1 < (l0.length : Int)
     ·as_aux_lemma =>
      rw [if_pos c4] at H
      have c4b0 : decide (x23_1 < (l0.length : Int)) = true := decide_eq_true c4
      clear c4
      by_cases c5 : x23_1 ≥ 40
      ·rw [if_pos c5] at H
       have c5b0 : decide (40 ≤ x23_1) = true := decide_eq_true c5
       clear c5
       replace H := Option.bind_eq_some_iff.mp H
       obtain ⟨t360, A60, H⟩ := H
       replace H : (some t360) = some r := H
       have A6 := Aside0.mk A60
       clear A60
       obtain rfl := Option.some.inj H
       have p358 : 0 ≤ (x23_1 : Int) := of_decide_eq_true (by first | (with_reducible assumption) | assumption)
       have q358 : x23_1 < (l0.length : Int) := of_decide_eq_true (by first | (with_reducible assumption) | assumption)
       obtain ⟨ad358, e358, hx358_0, hx358_1, hx358_2, hx358_3, hx358_4⟩ := at_T71 HR0.out x23_1 p358 q358
       cases e358
       replace hx358_0 := (HB.out.cell (World.block_lt_of_cell? w _ hx358_0)).trans hx358_0
       replace hx358_1 := (HB.out.cell (World.block_lt_of_cell? w _ hx358_1)).trans hx358_1
       replace hx358_2 := (HB.out.cell (World.block_lt_of_cell? w _ hx358_2)).trans hx358_2
       replace hx358_3 := (HB.out.cell (World.block_lt_of_cell? w _ hx358_3)).trans hx358_3
       replace hx358_4 := (HB.out.cell (World.block_lt_of_cell? w _ hx358_4)).trans hx358_4
       replace p358 := eq_true p358
       replace q358 := eq_true q358
       go_wp2_with (first | ((with_reducible refine gate_dst (N := 7) rfl ?_); (try (refine gate_guard (by rfl) ?_; dsimp only)); refine box_event ?hg (N := 7) ?hd (cs := #[.int .i64 0, .int .i64 0, .int .i64 0, .int .i64 0, .int .i64 0]) (t := 71) ?hr ?_; (case hd => rfl); (case hg => rfl); (case hr => first | (go_simp; done) | (go_simp; rfl)); intro gb359 hg w7 hbox hb; have BK359 := Aside0.mk (hbox); have GW359 := Aside0.mk ((by rw [hg]; exact (below_size (by first | exact HB.out | exact pw_below_drewN HB.out _ | exact below_drew1 HB.out)) : w.heap.size ≤ gb359)); have GE359 := GW359; replace HO_3 := Aside0.mk (Kd.R_below (by (with_reducible repeat (first | apply Kd.R_alloc | apply Kd.R_drewN | apply Kd.R_drew)); exact HO_3.out) hb); replace HO_4 := Aside0.mk (Kd.R_below (by (with_reducible repeat (first | apply Kd.R_alloc | apply Kd.R_drewN | apply Kd.R_drew)); exact HO_4.out) hb); replace HB := Aside0.mk (below_step (by first | exact HB.out | exact pw_below_drewN HB.out _ | exact below_drew1 HB.out) hb); clear hb hbox hg; obtain ⟨hcz8_0, hcz8_1, hcz8_2, hcz8_3, hcz8_4, hfz8_0, hfz8_1, hfz8_2, hfz8_3, hfz8_4⟩ := cz5 BK359.out) | ((with_reducible refine gate_callee (f := 24) rfl ?_); refine goesL_ (some 201) rfl rfl Try.func24 (by kernel_rfl) rfl #[] rfl (by (try simp only [List.map_toArray, List.map_cons, List.map_nil]); first | done | rfl | (simp only [List.length_drop, List.length_take]; rfl)) ?_; (with_reducible refine (backseatlaw16_alive.calls k1  t360 _ A6.out).mono ?_); rintro e w9 ⟨rfl, hb⟩; refine ⟨_, rfl, ?_⟩; replace HO_3 := Aside0.mk (Kd.R_below (by (with_reducible repeat (first | apply Kd.R_alloc | apply Kd.R_drewN | apply Kd.R_drew)); exact (Kd.R_mono (Kd.R_far (p := ⟨gb359, 4, none⟩) (Kd.R_far (p := ⟨gb359, 3, none⟩) (Kd.R_far (p := ⟨gb359, 2, none⟩) (Kd.R_far (p := ⟨gb359, 1, none⟩) (Kd.R_far (p := ⟨gb359, 0, none⟩) (Kd.R_types HO_3.out BK359.out (by decide)) (fun _ hk => hk.2) (.int .i64 ((rd_T71 l0 x23_1).f0))) (fun _ hk => hk.2) (.int .i64 ((rd_T71 l0 x23_1).f1))) (fun _ hk => hk.2) (.int .i64 ((rd_T71 l0 x23_1).f2))) (fun _ hk => hk.2) (.int .i64 ((rd_T71 l0 x23_1).f3))) (fun _ hk => hk.2) (.int .i64 ((rd_T71 l0 x23_1).f4))) (fun _ h_ => h_.1))) hb); replace HO_4 := Aside0.mk (Kd.R_below (by (with_reducible repeat (first | apply Kd.R_alloc | apply Kd.R_drewN | apply Kd.R_drew)); exact (Kd.R_mono (Kd.R_far (p := ⟨gb359, 4, none⟩) (Kd.R_far (p := ⟨gb359, 3, none⟩) (Kd.R_far (p := ⟨gb359, 2, none⟩) (Kd.R_far (p := ⟨gb359, 1, none⟩) (Kd.R_far (p := ⟨gb359, 0, none⟩) (Kd.R_types HO_4.out BK359.out (by decide)) (fun _ hk => hk.2) (.int .i64 ((rd_T71 l0 x23_1).f0))) (fun _ hk => hk.2) (.int .i64 ((rd_T71 l0 x23_1).f1))) (fun _ hk => hk.2) (.int .i64 ((rd_T71 l0 x23_1).f2))) (fun _ hk => hk.2) (.int .i64 ((rd_T71 l0 x23_1).f3))) (fun _ hk => hk.2) (.int .i64 ((rd_T71 l0 x23_1).f4))) (fun _ h_ => h_.1))) hb); replace BK359 := Aside0.mk (bb hb (put5 BK359.out)); replace HB := Aside0.mk (below_step (by repeat first | refine below_set ?_ GE359.out | exact HB.out | apply below_alloc | apply pw_below_drewN | apply below_drew1) hb); (try clear hb); (try clear hb2); (try clear hk); (try clear hi)))
       go_ret
       exact ⟨by first | rfl | (simp [errW_none, errW_some] <;> rfl) | (simp [*, errW_none, errW_some] <;> rfl), by repeat first | refine below_set ?_ GE359.out | exact HB.out | apply below_alloc | apply pw_below_drewN | apply below_drew1⟩
      ·as_aux_lemma =>
       rw [if_neg c5] at H
       have c5b0 : decide (40 ≤ x23_1) = false := decide_eq_false c5
       clear c5
       have H' := Aside0.mk H
       clear H
       have p358 : 0 ≤ (x23_1 : Int) := of_decide_eq_true (by first | (with_reducible assumption) | assumption)
       have q358 : x23_1 < (l0.length : Int) := of_decide_eq_true (by first | (with_reducible assumption) | assumption)
       obtain ⟨ad358, e358, hx358_0, hx358_1, hx358_2, hx358_3, hx358_4⟩ := at_T71 HR0.out x23_1 p358 q358
       cases e358
       replace hx358_0 := (HB.out.cell (World.block_lt_of_cell? w _ hx358_0)).trans hx358_0
       replace hx358_1 := (HB.out.cell (World.block_lt_of_cell? w _ hx358_1)).trans hx358_1
       replace hx358_2 := (HB.out.cell (World.block_lt_of_cell? w _ hx358_2)).trans hx358_2
       replace hx358_3 := (HB.out.cell (World.block_lt_of_cell? w _ hx358_3)).trans hx358_3
       replace hx358_4 := (HB.out.cell (World.block_lt_of_cell? w _ hx358_4)).trans hx358_4
       replace p358 := eq_true p358
       replace q358 := eq_true q358
       try go_wp2_with (first | ((with_reducible refine gate_dst (N := 7) rfl ?_); (try (refine gate_guard (by rfl) ?_; dsimp only)); refine box_event ?hg (N := 7) ?hd (cs := #[.int .i64 0, .int .i64 0, .int .i64 0, .int .i64 0, .int .i64 0]) (t := 71) ?hr ?_; (case hd => rfl); (case hg => rfl); (case hr => first | (go_simp; done) | (go_simp; rfl)); intro gb359 hg w10 hbox hb; have BK359 := Aside0.mk (hbox); have GW359 := Aside0.mk ((by rw [hg]; exact (below_size (by first | exact HB.out | exact pw_below_drewN HB.out _ | exact below_drew1 HB.out)) : w.heap.size ≤ gb359)); have GE359 := GW359; replace HO_3 := Aside0.mk (Kd.R_below (by (with_reducible repeat (first | apply Kd.R_alloc | apply Kd.R_drewN | apply Kd.R_drew)); exact HO_3.out) hb); replace HO_4 := Aside0.mk (Kd.R_below (by (with_reducible repeat (first | apply Kd.R_alloc | apply Kd.R_drewN | apply Kd.R_drew)); exact HO_4.out) hb); replace HB := Aside0.mk (below_step (by first | exact HB.out | exact pw_below_drewN HB.out _ | exact below_drew1 HB.out) hb); clear hb hbox hg; obtain ⟨hcz11_0, hcz11_1, hcz11_2, hcz11_3, hcz11_4, hfz11_0, hfz11_1, hfz11_2, hfz11_3, hfz11_4⟩ := cz5 BK359.out))
       have n0_ : Aside0 (Kd.R k48 48 (((((w10.setCell ⟨gb359, 0, none⟩ (.int .i64 ((rd_T71 l0 x23_1).f0))).setCell ⟨gb359, 1, none⟩ (.int .i64 ((rd_T71 l0 x23_1).f1))).setCell ⟨gb359, 2, none⟩ (.int .i64 ((rd_T71 l0 x23_1).f2))).setCell ⟨gb359, 3, none⟩ (.int .i64 ((rd_T71 l0 x23_1).f3))).setCell ⟨gb359, 4, none⟩ (.int .i64 ((rd_T71 l0 x23_1).f4))) w.heap.size (fun k_ => some k_ ≠ (u4 : Value).ownBlock) u3 x3_1) := ⟨by (with_reducible repeat (first | apply Kd.R_alloc | apply Kd.R_drewN | apply Kd.R_drew)); exact Kd.R_mono (Kd.R_far (p := ⟨gb359, 4, none⟩) (Kd.R_far (p := ⟨gb359, 3, none⟩) (Kd.R_far (p := ⟨gb359, 2, none⟩) (Kd.R_far (p := ⟨gb359, 1, none⟩) (Kd.R_far (p := ⟨gb359, 0, none⟩) (Kd.R_types HO_3.out BK359.out (by decide)) (fun _ hk => hk.2) (.int .i64 ((rd_T71 l0 x23_1).f0))) (fun _ hk => hk.2) (.int .i64 ((rd_T71 l0 x23_1).f1))) (fun _ hk => hk.2) (.int .i64 ((rd_T71 l0 x23_1).f2))) (fun _ hk => hk.2) (.int .i64 ((rd_T71 l0 x23_1).f3))) (fun _ hk => hk.2) (.int .i64 ((rd_T71 l0 x23_1).f4))) (fun _ hk => hk.1)⟩
       have n1_ : Aside0 (Kd.R k48 48 (((((w10.setCell ⟨gb359, 0, none⟩ (.int .i64 ((rd_T71 l0 x23_1).f0))).setCell ⟨gb359, 1, none⟩ (.int .i64 ((rd_T71 l0 x23_1).f1))).setCell ⟨gb359, 2, none⟩ (.int .i64 ((rd_T71 l0 x23_1).f2))).setCell ⟨gb359, 3, none⟩ (.int .i64 ((rd_T71 l0 x23_1).f3))).setCell ⟨gb359, 4, none⟩ (.int .i64 ((rd_T71 l0 x23_1).f4))) w.heap.size (fun k_ => some k_ ≠ (u3 : Value).ownBlock) u4 x4_1) := ⟨by (with_reducible repeat (first | apply Kd.R_alloc | apply Kd.R_drewN | apply Kd.R_drew)); exact Kd.R_mono (Kd.R_far (p := ⟨gb359, 4, none⟩) (Kd.R_far (p := ⟨gb359, 3, none⟩) (Kd.R_far (p := ⟨gb359, 2, none⟩) (Kd.R_far (p := ⟨gb359, 1, none⟩) (Kd.R_far (p := ⟨gb359, 0, none⟩) (Kd.R_types HO_4.out BK359.out (by decide)) (fun _ hk => hk.2) (.int .i64 ((rd_T71 l0 x23_1).f0))) (fun _ hk => hk.2) (.int .i64 ((rd_T71 l0 x23_1).f1))) (fun _ hk => hk.2) (.int .i64 ((rd_T71 l0 x23_1).f2))) (fun _ hk => hk.2) (.int .i64 ((rd_T71 l0 x23_1).f3))) (fun _ hk => hk.2) (.int .i64 ((rd_T71 l0 x23_1).f4))) (fun _ hk => hk.1)⟩
       have n2_ : Aside0 ((((((w10.setCell ⟨gb359, 0, none⟩ (.int .i64 ((rd_T71 l0 x23_1).f0))).setCell ⟨gb359, 1, none⟩ (.int .i64 ((rd_T71 l0 x23_1).f1))).setCell ⟨gb359, 2, none⟩ (.int .i64 ((rd_T71 l0 x23_1).f2))).setCell ⟨gb359, 3, none⟩ (.int .i64 ((rd_T71 l0 x23_1).f3))).setCell ⟨gb359, 4, none⟩ (.int .i64 ((rd_T71 l0 x23_1).f4))).heap[gb359]? = some (.cells #[.int .i64 ((rd_T71 l0 x23_1).f0), .int .i64 ((rd_T71 l0 x23_1).f1), .int .i64 ((rd_T71 l0 x23_1).f2), .int .i64 ((rd_T71 l0 x23_1).f3), .int .i64 ((rd_T71 l0 x23_1).f4)] 71 (0, 0))) := ⟨by exact (put5 BK359.out)⟩
       have n3_ : Aside0 (Below w.heap.size w (((((w10.setCell ⟨gb359, 0, none⟩ (.int .i64 ((rd_T71 l0 x23_1).f0))).setCell ⟨gb359, 1, none⟩ (.int .i64 ((rd_T71 l0 x23_1).f1))).setCell ⟨gb359, 2, none⟩ (.int .i64 ((rd_T71 l0 x23_1).f2))).setCell ⟨gb359, 3, none⟩ (.int .i64 ((rd_T71 l0 x23_1).f3))).setCell ⟨gb359, 4, none⟩ (.int .i64 ((rd_T71 l0 x23_1).f4)))) := ⟨by repeat first | refine below_set ?_ GE359.out | exact HB.out | apply below_alloc | apply pw_below_drewN | apply below_drew1⟩
       (try clear HO_3)
       (try clear HO_4)
       (try clear BK359)
       (try clear HB)
       generalize (((((w10.setCell ⟨gb359, 0, none⟩ (.int .i64 ((rd_T71 l0 x23_1).f0))).setCell ⟨gb359, 1, none⟩ (.int .i64 ((rd_T71 l0 x23_1).f1))).setCell ⟨gb359, 2, none⟩ (.int .i64 ((rd_T71 l0 x23_1).f2))).setCell ⟨gb359, 3, none⟩ (.int .i64 ((rd_T71 l0 x23_1).f3))).setCell ⟨gb359, 4, none⟩ (.int .i64 ((rd_T71 l0 x23_1).f4))) = w12 at n0_ n1_ n2_ n3_ ⊢
       have HO_3 := n0_
       have HO_4 := n1_
       have BK359 := n2_
       have HB := n3_
       clear n0_ n1_ n2_ n3_
       replace HO_3 := Aside0.mk (Kd.R_drew HO_3.out); replace HO_4 := Aside0.mk (Kd.R_drew HO_4.out); replace BK359 := Aside0.mk (blk_drew BK359.out); replace HB := Aside0.mk (below_drew1 HB.out)
       refine start_ (n := 21) (S := fun w' => w'.cell? ⟨gb359, 0, none⟩ = some (.int .i64 ((rd_T71 l0 x23_1).f0)) ∧ w'.cell? ⟨gb359, 1, none⟩ = some (.int .i64 ((rd_T71 l0 x23_1).f1)) ∧ w'.cell? ⟨gb359, 2, none⟩ = some (.int .i64 ((rd_T71 l0 x23_1).f2)) ∧ w'.cell? ⟨gb359, 3, none⟩ = some (.int .i64 ((rd_T71 l0 x23_1).f3)) ∧ w'.cell? ⟨gb359, 4, none⟩ = some (.int .i64 ((rd_T71 l0 x23_1).f4))) (ds := []) #[false, false, false, false, false, false, false, false, false, false, false, false, false, false, false, false, false, false, false, false, false] (by kernel_rfl) rfl rfl ⟨(blk_cell BK359.out 0).trans rfl, (blk_cell BK359.out 1).trans rfl, (blk_cell BK359.out 2).trans rfl, (blk_cell BK359.out 3).trans rfl, (blk_cell BK359.out 4).trans rfl⟩ (fun hHeld => ?_); refine with_tabW backseatlaw16_SizeActive.tab9 backseatlaw16_SizeActive.bits9 (fun HT_ HW_ => ?_)
       generalize w12.drew = w13 at HO_3 HO_4 BK359 HB hHeld ⊢
       refine pu HT_.out (i := 0) (N := some 38) (v := ?_) (a' := ?_) m9_0_ rfl rfl (by kernel_rfl) (fun _ _ _ h => h) (by rfl) ?_ ?_ ?_; rotate_left; (·intro w'; go_simp; with_reducible rfl); rotate_left; (·simp only [Act.put, s1, s2, s3, i64_w, i32_w]; rfl)
       refine pu HT_.out (i := 6) (N := some 44) (v := ?_) (a' := ?_) m9_1_ rfl rfl (by kernel_rfl) (fun _ _ _ h => h) (by rfl) ?_ ?_ ?_; rotate_left; (·intro w'; go_simp; with_reducible rfl); rotate_left; (·simp only [Act.put, s1, s2, s3, i64_w, i32_w]; rfl)
       refine pu HT_.out (i := 12) (N := some 50) (v := ?_) (a' := ?_) m9_2_ rfl rfl (by kernel_rfl) (fun _ _ _ h => h) (by rfl) ?_ ?_ ?_; rotate_left; (·intro w'; go_simp; with_reducible rfl); rotate_left; (·simp only [Act.put, s1, s2, s3, i64_w, i32_w]; rfl)
       refine take_ (i := 1) (N := some 39) (v := ?_) (a' := ?_) m9_3_ rfl rfl (take_ofW HT_.out HW_.out (by kernel_rfl)) (fun _ _ _ h => h) (Or.inl ⟨by rfl, ?_⟩) hHeld ?_ ?_; rotate_left; (·rintro w' ⟨s0, s1, s2, s3, s4⟩; go_simp; with_reducible rfl); rotate_left; (·simp only [Act.put, s1, s2, s3, i64_w, i32_w]; rfl)
       refine pu HT_.out (i := 2) (N := some 40) (v := ?_) (a' := ?_) m9_4_ rfl rfl (by kernel_rfl) (fun _ _ _ h => h) (by rfl) ?_ ?_ ?_; rotate_left; (·intro w'; go_simp; with_reducible rfl); rotate_left; (·simp only [Act.put, s1, s2, s3, i64_w, i32_w]; rfl)
       refine pu HT_.out (i := 3) (N := some 41) (v := ?_) (a' := ?_) m9_5_ rfl rfl (by kernel_rfl) (fun _ _ _ h => h) (by rfl) ?_ ?_ ?_; rotate_left; (·intro w'; go_simp; with_reducible rfl); rotate_left; (·simp only [Act.put, s1, s2, s3, i64_w, i32_w]; rfl)
       refine pu HT_.out (i := 4) (N := some 42) (v := ?_) (a' := ?_) m9_6_ rfl rfl (by kernel_rfl) (fun _ _ _ h => h) (by rfl) ?_ ?_ ?_; rotate_left; (·intro w'; go_simp; with_reducible rfl); rotate_left; (·simp only [Act.put, s1, s2, s3, i64_w, i32_w]; rfl)
       refine pu HT_.out (i := 5) (N := some 43) (v := ?_) (a' := ?_) m9_7_ rfl rfl (by kernel_rfl) (fun _ _ _ h => h) (by rfl) ?_ ?_ ?_; rotate_left; (·intro w'; go_simp; with_reducible rfl); rotate_left; (·simp only [Act.put, s1, s2, s3, i64_w, i32_w]; rfl)
       refine pu HT_.out (i := 18) (N := some 8) (v := ?_) (a' := ?_) m9_8_ rfl rfl (by kernel_rfl) (fun _ _ _ h => h) (by rfl) ?_ ?_ ?_; rotate_left; (·intro w'; go_simp; with_reducible rfl); rotate_left; (·simp only [Act.put, s1, s2, s3, i64_w, i32_w]; rfl)
       refine take_ (i := 7) (N := some 45) (v := ?_) (a' := ?_) m9_9_ rfl rfl (take_ofW HT_.out HW_.out (by kernel_rfl)) (fun _ _ _ h => h) (Or.inl ⟨by rfl, ?_⟩) hHeld ?_ ?_; rotate_left; (·rintro w' ⟨s0, s1, s2, s3, s4⟩; go_simp; with_reducible rfl); rotate_left; (·simp only [Act.put, s1, s2, s3, i64_w, i32_w]; rfl)
       refine pu HT_.out (i := 8) (N := some 46) (v := ?_) (a' := ?_) m9_10_ rfl rfl (by kernel_rfl) (fun _ _ _ h => h) (by rfl) ?_ ?_ ?_; rotate_left; (·intro w'; go_simp; with_reducible rfl); rotate_left; (·simp only [Act.put, s1, s2, s3, i64_w, i32_w]; rfl)
       refine pu HT_.out (i := 9) (N := some 47) (v := ?_) (a' := ?_) m9_11_ rfl rfl (by kernel_rfl) (fun _ _ _ h => h) (by rfl) ?_ ?_ ?_; rotate_left; (·intro w'; go_simp; with_reducible rfl); rotate_left; (·simp only [Act.put, s1, s2, s3, i64_w, i32_w]; rfl)
       refine pu HT_.out (i := 10) (N := some 48) (v := ?_) (a' := ?_) m9_12_ rfl rfl (by kernel_rfl) (fun _ _ _ h => h) (by rfl) ?_ ?_ ?_; rotate_left; (·intro w'; go_simp; with_reducible rfl); rotate_left; (·simp only [Act.put, s1, s2, s3, i64_w, i32_w]; rfl)
       refine pu HT_.out (i := 11) (N := some 49) (v := ?_) (a' := ?_) m9_13_ rfl rfl (by kernel_rfl) (fun _ _ _ h => h) (by rfl) ?_ ?_ ?_; rotate_left; (·intro w'; go_simp; with_reducible rfl); rotate_left; (·simp only [Act.put, s1, s2, s3, i64_w, i32_w]; rfl)
       refine pu HT_.out (i := 19) (N := some 9) (v := ?_) (a' := ?_) m9_14_ rfl rfl (by kernel_rfl) (fun _ _ _ h => h) (by rfl) ?_ ?_ ?_; rotate_left; (·intro w'; go_simp; with_reducible rfl); rotate_left; (·simp only [Act.put, s1, s2, s3, i64_w, i32_w]; rfl)
       refine take_ (i := 13) (N := some 51) (v := ?_) (a' := ?_) m9_15_ rfl rfl (take_ofW HT_.out HW_.out (by kernel_rfl)) (fun _ _ _ h => h) (Or.inl ⟨by rfl, ?_⟩) hHeld ?_ ?_; rotate_left; (·rintro w' ⟨s0, s1, s2, s3, s4⟩; go_simp; with_reducible rfl); rotate_left; (·simp only [Act.put, s1, s2, s3, i64_w, i32_w]; rfl)
       refine pu HT_.out (i := 14) (N := some 52) (v := ?_) (a' := ?_) m9_16_ rfl rfl (by kernel_rfl) (fun _ _ _ h => h) (by rfl) ?_ ?_ ?_; rotate_left; (·intro w'; go_simp; with_reducible rfl); rotate_left; (·simp only [Act.put, s1, s2, s3, i64_w, i32_w]; rfl)
       refine pu HT_.out (i := 15) (N := some 53) (v := ?_) (a' := ?_) m9_17_ rfl rfl (by kernel_rfl) (fun _ _ _ h => h) (by rfl) ?_ ?_ ?_; rotate_left; (·intro w'; go_simp; with_reducible rfl); rotate_left; (·simp only [Act.put, s1, s2, s3, i64_w, i32_w]; rfl)
       refine pu HT_.out (i := 16) (N := some 54) (v := ?_) (a' := ?_) m9_18_ rfl rfl (by kernel_rfl) (fun _ _ _ h => h) (by rfl) ?_ ?_ ?_; rotate_left; (·intro w'; go_simp; with_reducible rfl); rotate_left; (·simp only [Act.put, s1, s2, s3, i64_w, i32_w]; rfl)
       refine pu HT_.out (i := 17) (N := some 55) (v := ?_) (a' := ?_) m9_19_ rfl rfl (by kernel_rfl) (fun _ _ _ h => h) (by rfl) ?_ ?_ ?_; rotate_left; (·intro w'; go_simp; with_reducible rfl); rotate_left; (·simp only [Act.put, s1, s2, s3, i64_w, i32_w]; rfl)
       refine pu HT_.out (i := 20) (N := some 10) (v := ?_) (a' := ?_) m9_20_ rfl rfl (by kernel_rfl) (fun _ _ _ h => h) (by rfl) ?_ ?_ ?_; rotate_left; (·intro w'; go_simp; with_reducible rfl); rotate_left; (·simp only [Act.put, s1, s2, s3, i64_w, i32_w]; rfl)
       refine done_ (done_of HT_.out (by kernel_rfl)) ?_
       obtain ⟨Ao14, co14, eo14⟩ := Kd.R_slice HO_4.out
       subst eo14
       try go_wp2
       go_loopg [13, 58] k1 (fun kq v13 v58 w' => ∃ (x13_2 : Int) (x58_2 : Int), v13 = .int .i64 x13_2 ∧ v58 = .int .i64 x58_2 ∧ Aside0 (backseatlaw16_SizeActive.l1 kq x3_1 x4_1 (wrap64 (x5_1 + (wrap64 (1 + (Int.tmod (wrap64 ((Int.tmod ((rd_T71 l0 x23_1).f4) 9) + 9)) 9))))) (wrap64 (1 + (Int.tmod (wrap64 ((Int.tmod ((rd_T71 l0 x23_1).f1) 9) + 9)) 9))) (wrap64 (1 + (Int.tmod (wrap64 ((Int.tmod ((rd_T71 l0 x23_1).f2) 80) + 80)) 80))) (wrap64 (2 + (Int.tmod (wrap64 ((Int.tmod ((rd_T71 l0 x23_1).f3) 49) + 49)) 49))) x13_2 l0 (l0.length : Int) x23_1 x4_1 (x4_1.length : Int) x58_2 ((rd_T71 l0 x23_1).f0) ((rd_T71 l0 x23_1).f1) ((rd_T71 l0 x23_1).f2) ((rd_T71 l0 x23_1).f3) ((rd_T71 l0 x23_1).f4) = some r) ∧ Aside0 (kq ≤ k1) ∧ Aside0 (Kd.R k48 48 w' w.heap.size (fun k_ => some k_ ≠ ((.slice Ao14 x4_1.length co14) : Value).ownBlock ∧ some k_ ≠ ((.slice Ao14 x4_1.length co14) : Value).ownBlock) u3 x3_1) ∧ Aside0 (Kd.R k48 48 w' w.heap.size (fun k_ => some k_ ≠ (u3 : Value).ownBlock) (.slice Ao14 x4_1.length co14) x4_1) ∧ Aside0 (Kd.R k48 48 w' w.heap.size (fun k_ => some k_ ≠ (u3 : Value).ownBlock) (.slice Ao14 x4_1.length co14) x4_1) ∧ Aside0 (w'.heap[gb359]? = some (.cells #[.int .i64 ((rd_T71 l0 x23_1).f0), .int .i64 ((rd_T71 l0 x23_1).f1), .int .i64 ((rd_T71 l0 x23_1).f2), .int .i64 ((rd_T71 l0 x23_1).f3), .int .i64 ((rd_T71 l0 x23_1).f4)] 71 (0, 0))) ∧ Aside0 (Below w.heap.size w w'))
       case atStart => exact ⟨((-1)), (0), (by first | rfl | (simp; done) | (simp [*]; done)), (by first | rfl | (simp; done) | (simp [*]; done)), H', ⟨Nat.le_refl _⟩, ⟨by (with_reducible repeat (first | apply Kd.R_alloc | apply Kd.R_drewN | apply Kd.R_drew)); exact Kd.R_mono HO_3.out (fun _ hk => ⟨hk, hk⟩)⟩, ⟨by (with_reducible repeat (first | apply Kd.R_alloc | apply Kd.R_drewN | apply Kd.R_drew)); exact HO_4.out⟩, ⟨by (with_reducible repeat (first | apply Kd.R_alloc | apply Kd.R_drewN | apply Kd.R_drew)); exact HO_4.out⟩, ⟨by (with_reducible repeat (first | refine blk_drewN ?_ _ | refine blk_drew ?_ | refine blk_alloc ?_ _)); exact BK359.out⟩, ⟨by repeat first | refine below_set ?_ GE359.out | exact HB.out | apply below_alloc | apply pw_below_drewN | apply below_drew1⟩⟩
       case round =>
        clear H'
        (try clear c2); (try clear c2b0); (try clear p2); (try clear c3); (try clear c3b0); (try clear p3); (try clear q3); (try clear hx3); (try clear c4); (try clear c4b0); (try clear c5); (try clear c5b0); (try clear p6); (try clear c9); (try clear hcz11_0); (try clear hcz11_1); (try clear hcz11_2); (try clear hcz11_3); (try clear hcz11_4); (try clear hcz8_0); (try clear hcz8_1); (try clear hcz8_2); (try clear hcz8_3); (try clear hcz8_4); (try clear hfz11_0); (try clear hfz11_1); (try clear hfz11_2); (try clear hfz11_3); (try clear hfz11_4); (try clear hfz8_0); (try clear hfz8_1); (try clear hfz8_2); (try clear hfz8_3); (try clear hfz8_4); (try clear hx358_0); (try clear hx358_1); (try clear hx358_2); (try clear hx358_3); (try clear hx358_4); (try clear p358); (try clear q358)
        obtain ⟨x13_2, x58_2, rfl, rfl, HA, HK2, HO_3, HO_4, HO_56, BK359, HB⟩ := hrel
        cases gk with
        | zero => exact absurd HA.out (by simp [backseatlaw16_SizeActive.l1])
        | succ k2 =>
         have H := HA.out
         clear HA
         simp only [backseatlaw16_SizeActive.l1] at H
         by_cases c15 : x58_2 < (x4_1.length : Int)
         ·as_aux_lemma =>
          rw [if_pos c15] at H
          have c15b0 : decide (x58_2 < (x4_1.length : Int)) = true := decide_eq_true c15
          clear c15
          by_cases c16 : 0 ≤ x58_2
          ·as_aux_lemma =>
           rw [if_pos c16] at H
           have c16b0 : decide (0 ≤ x58_2) = true := decide_eq_true c16
           clear c16
           by_cases c17 : x58_2 < (x4_1.length : Int)
           ·as_aux_lemma =>
            rw [if_pos c17] at H
            have c17b0 : decide (x58_2 < (x4_1.length : Int)) = true := decide_eq_true c17
            clear c17
            by_cases c18 : ((rd_T48 x4_1 x58_2).f0) = (wrap64 (1 + (Int.tmod (wrap64 ((Int.tmod ((rd_T71 l0 x23_1).f1) 9) + 9)) 9)))
            ·rw [if_pos c18] at H
             have c18b0 : (((rd_T48 x4_1 x58_2).f0) == (wrap64 (1 + (Int.tmod (wrap64 ((Int.tmod ((rd_T71 l0 x23_1).f1) 9) + 9)) 9)))) = true := beq_iff_eq.mpr c18
             have c18b1 : (((rd_T48 x4_1 x58_2).f0) != (wrap64 (1 + (Int.tmod (wrap64 ((Int.tmod ((rd_T71 l0 x23_1).f1) 9) + 9)) 9)))) = false := bne_eq_false_iff_eq.mpr c18
             clear c18
             have H' := Aside0.mk H
             clear H
             have p361 : 0 ≤ (x58_2 : Int) := of_decide_eq_true (by first | (with_reducible assumption) | assumption)
             have q361 : x58_2 < (x4_1.length : Int) := of_decide_eq_true (by first | (with_reducible assumption) | assumption)
             obtain ⟨ad361, e361, hx361_0, hx361_1, hx361_2, hx361_3⟩ := at_T48 (Kd.R_reads' HO_56.out).2.2 x58_2 p361 q361
             cases e361
             replace p361 := eq_true p361
             replace q361 := eq_true q361
             go_wp2_with (first | ((with_reducible refine gate_dst (N := 15) rfl ?_); (try (refine gate_guard (by rfl) ?_; dsimp only)); refine box_event ?hg (N := 15) ?hd (cs := #[.int .i64 0, .int .i64 0, .int .i64 0, .int .i64 0]) (t := 48) ?hr ?_; (case hd => rfl); (case hg => rfl); (case hr => first | (go_simp; done) | (go_simp; rfl)); intro gb362 hg w19 hbox hb; have BK362 := Aside0.mk (hbox); have GW362 := Aside0.mk ((by rw [hg]; exact (below_size (by repeat first | refine below_set ?_ GE359.out | exact HB.out | apply below_alloc | apply pw_below_drewN | apply below_drew1)) : w.heap.size ≤ gb362)); have GE362 := GW362; have NB359_362 := Aside0.mk ((by rw [hg]; exact lt1 BK359.out : gb359 ≠ gb362)); have NB362_359 := Aside0.mk ((by rw [hg]; exact gt1 BK359.out : gb362 ≠ gb359)); replace HO_3 := Aside0.mk (Kd.R_below (Kd.R_elderB (by (with_reducible repeat (first | apply Kd.R_alloc | apply Kd.R_drewN | apply Kd.R_drew)); exact HO_3.out) gb362 (Nat.le_of_eq hg.symm)) hb); replace HO_4 := Aside0.mk (Kd.R_below (Kd.R_elderB (by (with_reducible repeat (first | apply Kd.R_alloc | apply Kd.R_drewN | apply Kd.R_drew)); exact HO_4.out) gb362 (Nat.le_of_eq hg.symm)) hb); replace HO_56 := Aside0.mk (Kd.R_below (Kd.R_elderB (by (with_reducible repeat (first | apply Kd.R_alloc | apply Kd.R_drewN | apply Kd.R_drew)); exact HO_56.out) gb362 (Nat.le_of_eq hg.symm)) hb); replace BK359 := Aside0.mk (bb hb BK359.out); replace HB := Aside0.mk (below_step (by repeat first | refine below_set ?_ GE359.out | exact HB.out | apply below_alloc | apply pw_below_drewN | apply below_drew1) hb); clear hb hbox hg; have hnb20 := NB362_359.out; have hnc20 := NB359_362.out; obtain ⟨hcz21_0, hcz21_1, hcz21_2, hcz21_3, hfz21_0, hfz21_1, hfz21_2, hfz21_3⟩ := cz4 BK362.out))
             go_roundg k2
             case measure => have := HK1.out; have := HK2.out; omega
             case rel => exact ⟨(x58_2), (wrap64 (x58_2 + 1)), (by first | rfl | (simp; done) | (simp [*]; done)), (by first | rfl | (simp; done) | (simp [*]; done)), H', ⟨by have := HK1.out; have := HK2.out; omega⟩, ⟨by (with_reducible repeat (first | apply Kd.R_alloc | apply Kd.R_drewN | apply Kd.R_drew)); exact Kd.R_mono (Kd.R_far (p := ⟨gb362, 3, none⟩) (Kd.R_far (p := ⟨gb362, 2, none⟩) (Kd.R_far (p := ⟨gb362, 1, none⟩) (Kd.R_far (p := ⟨gb362, 0, none⟩) (Kd.R_mono HO_3.out (fun k_ hk => (⟨hk, hk.2⟩ : _ ∧ k_ ≠ gb362))) (fun _ hk => hk.2) (.int .i64 ((rd_T48 x4_1 x58_2).f0))) (fun _ hk => hk.2) (.int .i64 ((rd_T48 x4_1 x58_2).f1))) (fun _ hk => hk.2) (.int .i64 ((rd_T48 x4_1 x58_2).f2))) (fun _ hk => hk.2) (.int .i64 ((rd_T48 x4_1 x58_2).f3))) (fun _ hk => ⟨hk.1.1.1, hk.1.1.2⟩)⟩, ⟨by (with_reducible repeat (first | apply Kd.R_alloc | apply Kd.R_drewN | apply Kd.R_drew)); exact Kd.R_mono (Kd.R_far (p := ⟨gb362, 3, none⟩) (Kd.R_far (p := ⟨gb362, 2, none⟩) (Kd.R_far (p := ⟨gb362, 1, none⟩) (Kd.R_far (p := ⟨gb362, 0, none⟩) (Kd.R_mono HO_4.out (fun k_ hk => (⟨hk, hk.2⟩ : _ ∧ k_ ≠ gb362))) (fun _ hk => hk.2) (.int .i64 ((rd_T48 x4_1 x58_2).f0))) (fun _ hk => hk.2) (.int .i64 ((rd_T48 x4_1 x58_2).f1))) (fun _ hk => hk.2) (.int .i64 ((rd_T48 x4_1 x58_2).f2))) (fun _ hk => hk.2) (.int .i64 ((rd_T48 x4_1 x58_2).f3))) (fun _ hk => hk.1.1)⟩, ⟨by (with_reducible repeat (first | apply Kd.R_alloc | apply Kd.R_drewN | apply Kd.R_drew)); exact Kd.R_mono (Kd.R_far (p := ⟨gb362, 3, none⟩) (Kd.R_far (p := ⟨gb362, 2, none⟩) (Kd.R_far (p := ⟨gb362, 1, none⟩) (Kd.R_far (p := ⟨gb362, 0, none⟩) (Kd.R_mono HO_56.out (fun k_ hk => (⟨hk, hk.2⟩ : _ ∧ k_ ≠ gb362))) (fun _ hk => hk.2) (.int .i64 ((rd_T48 x4_1 x58_2).f0))) (fun _ hk => hk.2) (.int .i64 ((rd_T48 x4_1 x58_2).f1))) (fun _ hk => hk.2) (.int .i64 ((rd_T48 x4_1 x58_2).f2))) (fun _ hk => hk.2) (.int .i64 ((rd_T48 x4_1 x58_2).f3))) (fun _ hk => hk.1.1)⟩, ⟨by exact (far4 NB359_362.out BK359.out)⟩, ⟨by repeat first | refine below_set ?_ GE359.out | refine below_set ?_ GE362.out | exact HB.out | apply below_alloc | apply pw_below_drewN | apply below_drew1⟩⟩
            ·rw [if_neg c18] at H
             have c18b0 : (((rd_T48 x4_1 x58_2).f0) == (wrap64 (1 + (Int.tmod (wrap64 ((Int.tmod ((rd_T71 l0 x23_1).f1) 9) + 9)) 9)))) = false := beq_eq_false_iff_ne.mpr c18
             have c18b1 : (((rd_T48 x4_1 x58_2).f0) != (wrap64 (1 + (Int.tmod (wrap64 ((Int.tmod ((rd_T71 l0 x23_1).f1) 9) + 9)) 9)))) = true := bne_iff_ne.mpr c18
             have H' := Aside0.mk H
             clear H
             have p361 : 0 ≤ (x58_2 : Int) := of_decide_eq_true (by first | (with_reducible assumption) | assumption)
             have q361 : x58_2 < (x4_1.length : Int) := of_decide_eq_true (by first | (with_reducible assumption) | assumption)
             obtain ⟨ad361, e361, hx361_0, hx361_1, hx361_2, hx361_3⟩ := at_T48 (Kd.R_reads' HO_56.out).2.2 x58_2 p361 q361
             cases e361
             replace p361 := eq_true p361
             replace q361 := eq_true q361
             go_wp2_with (first | ((with_reducible refine gate_dst (N := 15) rfl ?_); (try (refine gate_guard (by rfl) ?_; dsimp only)); refine box_event ?hg (N := 15) ?hd (cs := #[.int .i64 0, .int .i64 0, .int .i64 0, .int .i64 0]) (t := 48) ?hr ?_; (case hd => rfl); (case hg => rfl); (case hr => first | (go_simp; done) | (go_simp; rfl)); intro gb362 hg w22 hbox hb; have BK362 := Aside0.mk (hbox); have GW362 := Aside0.mk ((by rw [hg]; exact (below_size (by repeat first | refine below_set ?_ GE359.out | exact HB.out | apply below_alloc | apply pw_below_drewN | apply below_drew1)) : w.heap.size ≤ gb362)); have GE362 := GW362; have NB359_362 := Aside0.mk ((by rw [hg]; exact lt1 BK359.out : gb359 ≠ gb362)); have NB362_359 := Aside0.mk ((by rw [hg]; exact gt1 BK359.out : gb362 ≠ gb359)); replace HO_3 := Aside0.mk (Kd.R_below (Kd.R_elderB (by (with_reducible repeat (first | apply Kd.R_alloc | apply Kd.R_drewN | apply Kd.R_drew)); exact HO_3.out) gb362 (Nat.le_of_eq hg.symm)) hb); replace HO_4 := Aside0.mk (Kd.R_below (Kd.R_elderB (by (with_reducible repeat (first | apply Kd.R_alloc | apply Kd.R_drewN | apply Kd.R_drew)); exact HO_4.out) gb362 (Nat.le_of_eq hg.symm)) hb); replace HO_56 := Aside0.mk (Kd.R_below (Kd.R_elderB (by (with_reducible repeat (first | apply Kd.R_alloc | apply Kd.R_drewN | apply Kd.R_drew)); exact HO_56.out) gb362 (Nat.le_of_eq hg.symm)) hb); replace BK359 := Aside0.mk (bb hb BK359.out); replace HB := Aside0.mk (below_step (by repeat first | refine below_set ?_ GE359.out | exact HB.out | apply below_alloc | apply pw_below_drewN | apply below_drew1) hb); clear hb hbox hg; have hnb23 := NB362_359.out; have hnc23 := NB359_362.out; obtain ⟨hcz24_0, hcz24_1, hcz24_2, hcz24_3, hfz24_0, hfz24_1, hfz24_2, hfz24_3⟩ := cz4 BK362.out))
             go_roundg k2
             case measure => have := HK1.out; have := HK2.out; omega
             case rel => exact ⟨(x13_2), (wrap64 (x58_2 + 1)), (by first | rfl | (simp; done) | (simp [*]; done)), (by first | rfl | (simp; done) | (simp [*]; done)), H', ⟨by have := HK1.out; have := HK2.out; omega⟩, ⟨by (with_reducible repeat (first | apply Kd.R_alloc | apply Kd.R_drewN | apply Kd.R_drew)); exact Kd.R_mono (Kd.R_far (p := ⟨gb362, 3, none⟩) (Kd.R_far (p := ⟨gb362, 2, none⟩) (Kd.R_far (p := ⟨gb362, 1, none⟩) (Kd.R_far (p := ⟨gb362, 0, none⟩) (Kd.R_mono HO_3.out (fun k_ hk => (⟨hk, hk.2⟩ : _ ∧ k_ ≠ gb362))) (fun _ hk => hk.2) (.int .i64 ((rd_T48 x4_1 x58_2).f0))) (fun _ hk => hk.2) (.int .i64 ((rd_T48 x4_1 x58_2).f1))) (fun _ hk => hk.2) (.int .i64 ((rd_T48 x4_1 x58_2).f2))) (fun _ hk => hk.2) (.int .i64 ((rd_T48 x4_1 x58_2).f3))) (fun _ hk => ⟨hk.1.1.1, hk.1.1.2⟩)⟩, ⟨by (with_reducible repeat (first | apply Kd.R_alloc | apply Kd.R_drewN | apply Kd.R_drew)); exact Kd.R_mono (Kd.R_far (p := ⟨gb362, 3, none⟩) (Kd.R_far (p := ⟨gb362, 2, none⟩) (Kd.R_far (p := ⟨gb362, 1, none⟩) (Kd.R_far (p := ⟨gb362, 0, none⟩) (Kd.R_mono HO_4.out (fun k_ hk => (⟨hk, hk.2⟩ : _ ∧ k_ ≠ gb362))) (fun _ hk => hk.2) (.int .i64 ((rd_T48 x4_1 x58_2).f0))) (fun _ hk => hk.2) (.int .i64 ((rd_T48 x4_1 x58_2).f1))) (fun _ hk => hk.2) (.int .i64 ((rd_T48 x4_1 x58_2).f2))) (fun _ hk => hk.2) (.int .i64 ((rd_T48 x4_1 x58_2).f3))) (fun _ hk => hk.1.1)⟩, ⟨by (with_reducible repeat (first | apply Kd.R_alloc | apply Kd.R_drewN | apply Kd.R_drew)); exact Kd.R_mono (Kd.R_far (p := ⟨gb362, 3, none⟩) (Kd.R_far (p := ⟨gb362, 2, none⟩) (Kd.R_far (p := ⟨gb362, 1, none⟩) (Kd.R_far (p := ⟨gb362, 0, none⟩) (Kd.R_mono HO_56.out (fun k_ hk => (⟨hk, hk.2⟩ : _ ∧ k_ ≠ gb362))) (fun _ hk => hk.2) (.int .i64 ((rd_T48 x4_1 x58_2).f0))) (fun _ hk => hk.2) (.int .i64 ((rd_T48 x4_1 x58_2).f1))) (fun _ hk => hk.2) (.int .i64 ((rd_T48 x4_1 x58_2).f2))) (fun _ hk => hk.2) (.int .i64 ((rd_T48 x4_1 x58_2).f3))) (fun _ hk => hk.1.1)⟩, ⟨by exact (far4 NB359_362.out BK359.out)⟩, ⟨by repeat first | refine below_set ?_ GE359.out | refine below_set ?_ GE362.out | exact HB.out | apply below_alloc | apply pw_below_drewN | apply below_drew1⟩⟩
           ·rw [if_neg c17] at H
            exact absurd H (by simp)
          ·rw [if_neg c16] at H
           exact absurd H (by simp)
         ·as_aux_lemma =>
          rw [if_neg c15] at H
          have c15b0 : decide (x58_2 < (x4_1.length : Int)) = false := decide_eq_false c15
          clear c15
          have HC25 := Aside0.mk H
          clear H
          have hcz26_0 : wr.cell? ⟨gb359, 0, none⟩ = some (.int .i64 ((rd_T71 l0 x23_1).f0)) := (blk_cell BK359.out 0).trans rfl
          have hcz26_1 : wr.cell? ⟨gb359, 1, none⟩ = some (.int .i64 ((rd_T71 l0 x23_1).f1)) := (blk_cell BK359.out 1).trans rfl
          have hcz26_2 : wr.cell? ⟨gb359, 2, none⟩ = some (.int .i64 ((rd_T71 l0 x23_1).f2)) := (blk_cell BK359.out 2).trans rfl
          have hcz26_3 : wr.cell? ⟨gb359, 3, none⟩ = some (.int .i64 ((rd_T71 l0 x23_1).f3)) := (blk_cell BK359.out 3).trans rfl
          have hcz26_4 : wr.cell? ⟨gb359, 4, none⟩ = some (.int .i64 ((rd_T71 l0 x23_1).f4)) := (blk_cell BK359.out 4).trans rfl
          have hfz26_0 := blk_frozen BK359.out 0
          have hfz26_1 := blk_frozen BK359.out 1
          have hfz26_2 := blk_frozen BK359.out 2
          have hfz26_3 := blk_frozen BK359.out 3
          have hfz26_4 := blk_frozen BK359.out 4
          go_upto_block 4 with (fail)
          go_cut [9, 10, 11, 12] (fun v9 v10 v11 v12 wc => ∃ (kq : Nat) (x9_24 : Int) (x10_24 : Int) (x11_24 : List (S48)) (x12_24 : Int), v9 = .int .i64 x9_24 ∧ v10 = .int .i64 x10_24 ∧ v12 = .int .i64 x12_24 ∧ Aside0 (backseatlaw16_SizeActive.j2 kq x3_1 x4_1 (wrap64 (x5_1 + (wrap64 (1 + (Int.tmod (wrap64 ((Int.tmod ((rd_T71 l0 x23_1).f4) 9) + 9)) 9))))) (wrap64 (1 + (Int.tmod (wrap64 ((Int.tmod ((rd_T71 l0 x23_1).f1) 9) + 9)) 9))) x9_24 x10_24 x11_24 x12_24 l0 (l0.length : Int) x23_1 ((rd_T71 l0 x23_1).f0) ((rd_T71 l0 x23_1).f1) ((rd_T71 l0 x23_1).f2) ((rd_T71 l0 x23_1).f3) ((rd_T71 l0 x23_1).f4) = some r) ∧ Aside0 (kq ≤ k2) ∧ Aside0 (Kd.R k48 48 wc w.heap.size (fun k_ => some k_ ≠ ((.slice Ao14 x4_1.length co14) : Value).ownBlock ∧ some k_ ≠ (v11 : Value).ownBlock) u3 x3_1) ∧ Aside0 (Kd.R k48 48 wc w.heap.size (fun k_ => some k_ ≠ (u3 : Value).ownBlock ∧ some k_ ≠ (v11 : Value).ownBlock) (.slice Ao14 x4_1.length co14) x4_1) ∧ Aside0 (Kd.R k48 48 wc w.heap.size (fun k_ => some k_ ≠ (u3 : Value).ownBlock ∧ some k_ ≠ ((.slice Ao14 x4_1.length co14) : Value).ownBlock) v11 x11_24) ∧ Aside0 (wc.heap[gb359]? = some (.cells #[.int .i64 ((rd_T71 l0 x23_1).f0), .int .i64 ((rd_T71 l0 x23_1).f1), .int .i64 ((rd_T71 l0 x23_1).f2), .int .i64 ((rd_T71 l0 x23_1).f3), .int .i64 ((rd_T71 l0 x23_1).f4)] 71 (0, 0))) ∧ Aside0 (Below w.heap.size w wc))
          case first =>
           have H := HC25.out
           clear HC25
           by_cases c27 : (Int.tmod (wrap64 ((Int.tmod ((rd_T71 l0 x23_1).f0) 3) + 3)) 3) = 0
           ·as_aux_lemma =>
            rw [if_pos c27] at H
            have c27b0 : ((Int.tmod (wrap64 ((Int.tmod ((rd_T71 l0 x23_1).f0) 3) + 3)) 3) == 0) = true := beq_iff_eq.mpr c27
            have c27b1 : ((Int.tmod (wrap64 ((Int.tmod ((rd_T71 l0 x23_1).f0) 3) + 3)) 3) != 0) = false := bne_eq_false_iff_eq.mpr c27
            clear c27
            (first | rw [c27b0] | (simp only [i64_w, i32_w]; rw [c27b0]) | skip)
            replace H := Option.bind_eq_some_iff.mp H
            obtain ⟨⟨t363, t364⟩, A280, H⟩ := H
            replace H : (if t364 = 0 then (backseatlaw16_SizeActive.j2 k2 x3_1 x4_1 (wrap64 (x5_1 + (wrap64 (1 + (Int.tmod (wrap64 ((Int.tmod ((rd_T71 l0 x23_1).f4) 9) + 9)) 9))))) (wrap64 (1 + (Int.tmod (wrap64 ((Int.tmod ((rd_T71 l0 x23_1).f1) 9) + 9)) 9))) (wrap64 (1 + (Int.tmod (wrap64 ((Int.tmod ((rd_T71 l0 x23_1).f2) 80) + 80)) 80))) (wrap64 (2 + (Int.tmod (wrap64 ((Int.tmod ((rd_T71 l0 x23_1).f3) 49) + 49)) 49))) t363 t364 l0 (l0.length : Int) x23_1 ((rd_T71 l0 x23_1).f0) ((rd_T71 l0 x23_1).f1) ((rd_T71 l0 x23_1).f2) ((rd_T71 l0 x23_1).f3) ((rd_T71 l0 x23_1).f4)) else (if x13_2 ≥ 0 then (some false) else (if (x4_1.length : Int) < 6 then (some false) else (backseatlaw16_SizeActive.j2 k2 x3_1 x4_1 (wrap64 (x5_1 + (wrap64 (1 + (Int.tmod (wrap64 ((Int.tmod ((rd_T71 l0 x23_1).f4) 9) + 9)) 9))))) (wrap64 (1 + (Int.tmod (wrap64 ((Int.tmod ((rd_T71 l0 x23_1).f1) 9) + 9)) 9))) (wrap64 (1 + (Int.tmod (wrap64 ((Int.tmod ((rd_T71 l0 x23_1).f2) 80) + 80)) 80))) (wrap64 (2 + (Int.tmod (wrap64 ((Int.tmod ((rd_T71 l0 x23_1).f3) 49) + 49)) 49))) t363 t364 l0 (l0.length : Int) x23_1 ((rd_T71 l0 x23_1).f0) ((rd_T71 l0 x23_1).f1) ((rd_T71 l0 x23_1).f2) ((rd_T71 l0 x23_1).f3) ((rd_T71 l0 x23_1).f4))))) = some r := H
            have A28 := Aside0.mk A280
            clear A280
            by_cases c29 : t364 = 0
            ·rw [if_pos c29] at H
             have c29b0 : (t364 == 0) = true := beq_iff_eq.mpr c29
             have c29b1 : (t364 != 0) = false := bne_eq_false_iff_eq.mpr c29
             clear c29
             have H' := Aside0.mk H
             clear H
             obtain ⟨Ao30, co30, eo30⟩ := Kd.R_slice HO_3.out
             subst eo30
             go_wp2_with (first | ((with_reducible refine gate_callee (f := 29) rfl ?_); refine goesL_ (some 93) rfl rfl Try.func29 (by kernel_rfl) rfl #[.slice Ao30 x3_1.length co30, .int .i64 (wrap64 (1 + (Int.tmod (wrap64 ((Int.tmod ((rd_T71 l0 x23_1).f1) 9) + 9)) 9))), .int .i64 (wrap64 (1 + (Int.tmod (wrap64 ((Int.tmod ((rd_T71 l0 x23_1).f2) 80) + 80)) 80))), .int .i64 (wrap64 (2 + (Int.tmod (wrap64 ((Int.tmod ((rd_T71 l0 x23_1).f3) 49) + 49)) 49))), .int .i64 (wrap64 (x5_1 + (wrap64 (1 + (Int.tmod (wrap64 ((Int.tmod ((rd_T71 l0 x23_1).f4) 9) + 9)) 9)))))] rfl (by (try simp only [List.map_toArray, List.map_cons, List.map_nil]); first | done | rfl | (simp only [List.length_drop, List.length_take]; rfl)) ?_; (with_reducible refine (size_Sit.calls k2 _ _ x3_1 (wrap64 (1 + (Int.tmod (wrap64 ((Int.tmod ((rd_T71 l0 x23_1).f1) 9) + 9)) 9))) (wrap64 (1 + (Int.tmod (wrap64 ((Int.tmod ((rd_T71 l0 x23_1).f2) 80) + 80)) 80))) (wrap64 (2 + (Int.tmod (wrap64 ((Int.tmod ((rd_T71 l0 x23_1).f3) 49) + 49)) 49))) (wrap64 (x5_1 + (wrap64 (1 + (Int.tmod (wrap64 ((Int.tmod ((rd_T71 l0 x23_1).f4) 9) + 9)) 9))))) t363 t364 _ ?side1 ?side2 A28.out).mono ?_); (case side1 => repeat (first | exact (Kd.R_reads' HO_3.out).2.2 | (with_reducible refine Kd.C_alloc ?_ _) | (with_reducible refine Kd.C_drewN ?_ _) | (with_reducible refine Kd.C_drew ?_))); (case side2 => exact (Kd.R_reads' HO_3.out).2.1); rintro e w31 ⟨v365, rfl, ho0, hb⟩; refine ⟨_, rfl, ?_⟩; have HO366 := Aside0.mk (Kd.R_lower (Kd.R_new' (Kd.R_new' (Kd.R_new' ho0 (Kd.R_lt (by (with_reducible repeat (first | apply Kd.R_alloc | apply Kd.R_drewN | apply Kd.R_drew)); exact HO_3.out))) (Kd.R_lt (by (with_reducible repeat (first | apply Kd.R_alloc | apply Kd.R_drewN | apply Kd.R_drew)); exact HO_4.out))) (Kd.R_lt (by (with_reducible repeat (first | apply Kd.R_alloc | apply Kd.R_drewN | apply Kd.R_drew)); exact HO_56.out))) (below_size (by repeat first | refine below_set ?_ GE359.out | exact HB.out | apply below_alloc | apply pw_below_drewN | apply below_drew1))); replace HO_3 := Aside0.mk (Kd.R_elder' (by (with_reducible repeat (first | apply Kd.R_alloc | apply Kd.R_drewN | apply Kd.R_drew)); exact HO_3.out) (Kd.R_base ho0) hb); replace HO_4 := Aside0.mk (Kd.R_elder' (by (with_reducible repeat (first | apply Kd.R_alloc | apply Kd.R_drewN | apply Kd.R_drew)); exact HO_4.out) (Kd.R_base ho0) hb); replace HO_56 := Aside0.mk (Kd.R_elder' (by (with_reducible repeat (first | apply Kd.R_alloc | apply Kd.R_drewN | apply Kd.R_drew)); exact HO_56.out) (Kd.R_base ho0) hb); replace BK359 := Aside0.mk (bb hb BK359.out); replace HB := Aside0.mk (below_step (by repeat first | refine below_set ?_ GE359.out | exact HB.out | apply below_alloc | apply pw_below_drewN | apply below_drew1) hb); (try clear hb); (try clear hb2); (try clear hk); (try clear hi); (try clear ho0)))
             go_meet
             case rel => exact ⟨_, ((wrap64 (1 + (Int.tmod (wrap64 ((Int.tmod ((rd_T71 l0 x23_1).f2) 80) + 80)) 80)))), ((wrap64 (2 + (Int.tmod (wrap64 ((Int.tmod ((rd_T71 l0 x23_1).f3) 49) + 49)) 49)))), (t363), (t364), (by first | rfl | (simp; done) | (simp [*]; done)), (by first | rfl | (simp; done) | (simp [*]; done)), (by first | rfl | (simp; done) | (simp [*]; done)), H', ⟨by have := HK1.out; have := HK2.out; first | omega | exact Nat.le_refl _⟩, ⟨by (with_reducible repeat (first | apply Kd.R_alloc | apply Kd.R_drewN | apply Kd.R_drew)); exact Kd.R_mono HO_3.out (fun _ hk => ⟨hk.1.1, hk.2⟩)⟩, ⟨by (with_reducible repeat (first | apply Kd.R_alloc | apply Kd.R_drewN | apply Kd.R_drew)); exact HO_4.out⟩, ⟨by (with_reducible repeat (first | apply Kd.R_alloc | apply Kd.R_drewN | apply Kd.R_drew)); exact Kd.R_mono HO366.out (fun _ hk => ⟨hk.1.1.2, hk.1.2⟩)⟩, ⟨by (with_reducible repeat (first | refine blk_drewN ?_ _ | refine blk_drew ?_ | refine blk_alloc ?_ _)); exact BK359.out⟩, ⟨by repeat first | refine below_set ?_ GE359.out | exact HB.out | apply below_alloc | apply pw_below_drewN | apply below_drew1⟩⟩
            ·as_aux_lemma =>
             rw [if_neg c29] at H
             have c29b0 : (t364 == 0) = false := beq_eq_false_iff_ne.mpr c29
             have c29b1 : (t364 != 0) = true := bne_iff_ne.mpr c29
             by_cases c32 : x13_2 ≥ 0
             ·rw [if_pos c32] at H
              have c32b0 : decide (0 ≤ x13_2) = true := decide_eq_true c32
              clear c32
              obtain rfl := Option.some.inj H
              obtain ⟨Ao33, co33, eo33⟩ := Kd.R_slice HO_3.out
              subst eo33
              go_wp2_with (first | ((with_reducible refine gate_callee (f := 29) rfl ?_); refine goesL_ (some 93) rfl rfl Try.func29 (by kernel_rfl) rfl #[.slice Ao33 x3_1.length co33, .int .i64 (wrap64 (1 + (Int.tmod (wrap64 ((Int.tmod ((rd_T71 l0 x23_1).f1) 9) + 9)) 9))), .int .i64 (wrap64 (1 + (Int.tmod (wrap64 ((Int.tmod ((rd_T71 l0 x23_1).f2) 80) + 80)) 80))), .int .i64 (wrap64 (2 + (Int.tmod (wrap64 ((Int.tmod ((rd_T71 l0 x23_1).f3) 49) + 49)) 49))), .int .i64 (wrap64 (x5_1 + (wrap64 (1 + (Int.tmod (wrap64 ((Int.tmod ((rd_T71 l0 x23_1).f4) 9) + 9)) 9)))))] rfl (by (try simp only [List.map_toArray, List.map_cons, List.map_nil]); first | done | rfl | (simp only [List.length_drop, List.length_take]; rfl)) ?_; (with_reducible refine (size_Sit.calls k2 _ _ x3_1 (wrap64 (1 + (Int.tmod (wrap64 ((Int.tmod ((rd_T71 l0 x23_1).f1) 9) + 9)) 9))) (wrap64 (1 + (Int.tmod (wrap64 ((Int.tmod ((rd_T71 l0 x23_1).f2) 80) + 80)) 80))) (wrap64 (2 + (Int.tmod (wrap64 ((Int.tmod ((rd_T71 l0 x23_1).f3) 49) + 49)) 49))) (wrap64 (x5_1 + (wrap64 (1 + (Int.tmod (wrap64 ((Int.tmod ((rd_T71 l0 x23_1).f4) 9) + 9)) 9))))) t363 t364 _ ?side1 ?side2 A28.out).mono ?_); (case side1 => repeat (first | exact (Kd.R_reads' HO_3.out).2.2 | (with_reducible refine Kd.C_alloc ?_ _) | (with_reducible refine Kd.C_drewN ?_ _) | (with_reducible refine Kd.C_drew ?_))); (case side2 => exact (Kd.R_reads' HO_3.out).2.1); rintro e w34 ⟨v365, rfl, ho0, hb⟩; refine ⟨_, rfl, ?_⟩; have HO366 := Aside0.mk (Kd.R_lower (Kd.R_new' (Kd.R_new' (Kd.R_new' ho0 (Kd.R_lt (by (with_reducible repeat (first | apply Kd.R_alloc | apply Kd.R_drewN | apply Kd.R_drew)); exact HO_3.out))) (Kd.R_lt (by (with_reducible repeat (first | apply Kd.R_alloc | apply Kd.R_drewN | apply Kd.R_drew)); exact HO_4.out))) (Kd.R_lt (by (with_reducible repeat (first | apply Kd.R_alloc | apply Kd.R_drewN | apply Kd.R_drew)); exact HO_56.out))) (below_size (by repeat first | refine below_set ?_ GE359.out | exact HB.out | apply below_alloc | apply pw_below_drewN | apply below_drew1))); replace HO_3 := Aside0.mk (Kd.R_elder' (by (with_reducible repeat (first | apply Kd.R_alloc | apply Kd.R_drewN | apply Kd.R_drew)); exact HO_3.out) (Kd.R_base ho0) hb); replace HO_4 := Aside0.mk (Kd.R_elder' (by (with_reducible repeat (first | apply Kd.R_alloc | apply Kd.R_drewN | apply Kd.R_drew)); exact HO_4.out) (Kd.R_base ho0) hb); replace HO_56 := Aside0.mk (Kd.R_elder' (by (with_reducible repeat (first | apply Kd.R_alloc | apply Kd.R_drewN | apply Kd.R_drew)); exact HO_56.out) (Kd.R_base ho0) hb); replace BK359 := Aside0.mk (bb hb BK359.out); replace HB := Aside0.mk (below_step (by repeat first | refine below_set ?_ GE359.out | exact HB.out | apply below_alloc | apply pw_below_drewN | apply below_drew1) hb); (try clear hb); (try clear hb2); (try clear hk); (try clear hi); (try clear ho0)))
              go_ret
              exact ⟨by first | rfl | (simp [errW_none, errW_some] <;> rfl) | (simp [*, errW_none, errW_some] <;> rfl), by repeat first | refine below_set ?_ GE359.out | exact HB.out | apply below_alloc | apply pw_below_drewN | apply below_drew1⟩
             ·as_aux_lemma =>
              rw [if_neg c32] at H
              have c32b0 : decide (0 ≤ x13_2) = false := decide_eq_false c32
              clear c32
              by_cases c35 : (x4_1.length : Int) < 6
              ·rw [if_pos c35] at H
               have c35b0 : decide ((x4_1.length : Int) < 6) = true := decide_eq_true c35
               have c35b1 : decide (x4_1.length < 6) = true := decide_eq_true (by omega)
               clear c35
               obtain rfl := Option.some.inj H
               obtain ⟨Ao36, co36, eo36⟩ := Kd.R_slice HO_3.out
               subst eo36
               go_wp2_with (first | ((with_reducible refine gate_callee (f := 29) rfl ?_); refine goesL_ (some 93) rfl rfl Try.func29 (by kernel_rfl) rfl #[.slice Ao36 x3_1.length co36, .int .i64 (wrap64 (1 + (Int.tmod (wrap64 ((Int.tmod ((rd_T71 l0 x23_1).f1) 9) + 9)) 9))), .int .i64 (wrap64 (1 + (Int.tmod (wrap64 ((Int.tmod ((rd_T71 l0 x23_1).f2) 80) + 80)) 80))), .int .i64 (wrap64 (2 + (Int.tmod (wrap64 ((Int.tmod ((rd_T71 l0 x23_1).f3) 49) + 49)) 49))), .int .i64 (wrap64 (x5_1 + (wrap64 (1 + (Int.tmod (wrap64 ((Int.tmod ((rd_T71 l0 x23_1).f4) 9) + 9)) 9)))))] rfl (by (try simp only [List.map_toArray, List.map_cons, List.map_nil]); first | done | rfl | (simp only [List.length_drop, List.length_take]; rfl)) ?_; (with_reducible refine (size_Sit.calls k2 _ _ x3_1 (wrap64 (1 + (Int.tmod (wrap64 ((Int.tmod ((rd_T71 l0 x23_1).f1) 9) + 9)) 9))) (wrap64 (1 + (Int.tmod (wrap64 ((Int.tmod ((rd_T71 l0 x23_1).f2) 80) + 80)) 80))) (wrap64 (2 + (Int.tmod (wrap64 ((Int.tmod ((rd_T71 l0 x23_1).f3) 49) + 49)) 49))) (wrap64 (x5_1 + (wrap64 (1 + (Int.tmod (wrap64 ((Int.tmod ((rd_T71 l0 x23_1).f4) 9) + 9)) 9))))) t363 t364 _ ?side1 ?side2 A28.out).mono ?_); (case side1 => repeat (first | exact (Kd.R_reads' HO_3.out).2.2 | (with_reducible refine Kd.C_alloc ?_ _) | (with_reducible refine Kd.C_drewN ?_ _) | (with_reducible refine Kd.C_drew ?_))); (case side2 => exact (Kd.R_reads' HO_3.out).2.1); rintro e w37 ⟨v365, rfl, ho0, hb⟩; refine ⟨_, rfl, ?_⟩; have HO366 := Aside0.mk (Kd.R_lower (Kd.R_new' (Kd.R_new' (Kd.R_new' ho0 (Kd.R_lt (by (with_reducible repeat (first | apply Kd.R_alloc | apply Kd.R_drewN | apply Kd.R_drew)); exact HO_3.out))) (Kd.R_lt (by (with_reducible repeat (first | apply Kd.R_alloc | apply Kd.R_drewN | apply Kd.R_drew)); exact HO_4.out))) (Kd.R_lt (by (with_reducible repeat (first | apply Kd.R_alloc | apply Kd.R_drewN | apply Kd.R_drew)); exact HO_56.out))) (below_size (by repeat first | refine below_set ?_ GE359.out | exact HB.out | apply below_alloc | apply pw_below_drewN | apply below_drew1))); replace HO_3 := Aside0.mk (Kd.R_elder' (by (with_reducible repeat (first | apply Kd.R_alloc | apply Kd.R_drewN | apply Kd.R_drew)); exact HO_3.out) (Kd.R_base ho0) hb); replace HO_4 := Aside0.mk (Kd.R_elder' (by (with_reducible repeat (first | apply Kd.R_alloc | apply Kd.R_drewN | apply Kd.R_drew)); exact HO_4.out) (Kd.R_base ho0) hb); replace HO_56 := Aside0.mk (Kd.R_elder' (by (with_reducible repeat (first | apply Kd.R_alloc | apply Kd.R_drewN | apply Kd.R_drew)); exact HO_56.out) (Kd.R_base ho0) hb); replace BK359 := Aside0.mk (bb hb BK359.out); replace HB := Aside0.mk (below_step (by repeat first | refine below_set ?_ GE359.out | exact HB.out | apply below_alloc | apply pw_below_drewN | apply below_drew1) hb); (try clear hb); (try clear hb2); (try clear hk); (try clear hi); (try clear ho0)))
               go_ret
               exact ⟨by first | rfl | (simp [errW_none, errW_some] <;> rfl) | (simp [*, errW_none, errW_some] <;> rfl), by repeat first | refine below_set ?_ GE359.out | exact HB.out | apply below_alloc | apply pw_below_drewN | apply below_drew1⟩
              ·rw [if_neg c35] at H
               have c35b0 : decide ((x4_1.length : Int) < 6) = false := decide_eq_false c35
               have c35b1 : decide (x4_1.length < 6) = false := decide_eq_false (by omega)
               clear c35
               have H' := Aside0.mk H
               clear H
               obtain ⟨Ao38, co38, eo38⟩ := Kd.R_slice HO_3.out
               subst eo38
               go_wp2_with (first | ((with_reducible refine gate_callee (f := 29) rfl ?_); refine goesL_ (some 93) rfl rfl Try.func29 (by kernel_rfl) rfl #[.slice Ao38 x3_1.length co38, .int .i64 (wrap64 (1 + (Int.tmod (wrap64 ((Int.tmod ((rd_T71 l0 x23_1).f1) 9) + 9)) 9))), .int .i64 (wrap64 (1 + (Int.tmod (wrap64 ((Int.tmod ((rd_T71 l0 x23_1).f2) 80) + 80)) 80))), .int .i64 (wrap64 (2 + (Int.tmod (wrap64 ((Int.tmod ((rd_T71 l0 x23_1).f3) 49) + 49)) 49))), .int .i64 (wrap64 (x5_1 + (wrap64 (1 + (Int.tmod (wrap64 ((Int.tmod ((rd_T71 l0 x23_1).f4) 9) + 9)) 9)))))] rfl (by (try simp only [List.map_toArray, List.map_cons, List.map_nil]); first | done | rfl | (simp only [List.length_drop, List.length_take]; rfl)) ?_; (with_reducible refine (size_Sit.calls k2 _ _ x3_1 (wrap64 (1 + (Int.tmod (wrap64 ((Int.tmod ((rd_T71 l0 x23_1).f1) 9) + 9)) 9))) (wrap64 (1 + (Int.tmod (wrap64 ((Int.tmod ((rd_T71 l0 x23_1).f2) 80) + 80)) 80))) (wrap64 (2 + (Int.tmod (wrap64 ((Int.tmod ((rd_T71 l0 x23_1).f3) 49) + 49)) 49))) (wrap64 (x5_1 + (wrap64 (1 + (Int.tmod (wrap64 ((Int.tmod ((rd_T71 l0 x23_1).f4) 9) + 9)) 9))))) t363 t364 _ ?side1 ?side2 A28.out).mono ?_); (case side1 => repeat (first | exact (Kd.R_reads' HO_3.out).2.2 | (with_reducible refine Kd.C_alloc ?_ _) | (with_reducible refine Kd.C_drewN ?_ _) | (with_reducible refine Kd.C_drew ?_))); (case side2 => exact (Kd.R_reads' HO_3.out).2.1); rintro e w39 ⟨v365, rfl, ho0, hb⟩; refine ⟨_, rfl, ?_⟩; have HO366 := Aside0.mk (Kd.R_lower (Kd.R_new' (Kd.R_new' (Kd.R_new' ho0 (Kd.R_lt (by (with_reducible repeat (first | apply Kd.R_alloc | apply Kd.R_drewN | apply Kd.R_drew)); exact HO_3.out))) (Kd.R_lt (by (with_reducible repeat (first | apply Kd.R_alloc | apply Kd.R_drewN | apply Kd.R_drew)); exact HO_4.out))) (Kd.R_lt (by (with_reducible repeat (first | apply Kd.R_alloc | apply Kd.R_drewN | apply Kd.R_drew)); exact HO_56.out))) (below_size (by repeat first | refine below_set ?_ GE359.out | exact HB.out | apply below_alloc | apply pw_below_drewN | apply below_drew1))); replace HO_3 := Aside0.mk (Kd.R_elder' (by (with_reducible repeat (first | apply Kd.R_alloc | apply Kd.R_drewN | apply Kd.R_drew)); exact HO_3.out) (Kd.R_base ho0) hb); replace HO_4 := Aside0.mk (Kd.R_elder' (by (with_reducible repeat (first | apply Kd.R_alloc | apply Kd.R_drewN | apply Kd.R_drew)); exact HO_4.out) (Kd.R_base ho0) hb); replace HO_56 := Aside0.mk (Kd.R_elder' (by (with_reducible repeat (first | apply Kd.R_alloc | apply Kd.R_drewN | apply Kd.R_drew)); exact HO_56.out) (Kd.R_base ho0) hb); replace BK359 := Aside0.mk (bb hb BK359.out); replace HB := Aside0.mk (below_step (by repeat first | refine below_set ?_ GE359.out | exact HB.out | apply below_alloc | apply pw_below_drewN | apply below_drew1) hb); (try clear hb); (try clear hb2); (try clear hk); (try clear hi); (try clear ho0)))
               go_meet
               case rel => exact ⟨_, ((wrap64 (1 + (Int.tmod (wrap64 ((Int.tmod ((rd_T71 l0 x23_1).f2) 80) + 80)) 80)))), ((wrap64 (2 + (Int.tmod (wrap64 ((Int.tmod ((rd_T71 l0 x23_1).f3) 49) + 49)) 49)))), (t363), (t364), (by first | rfl | (simp; done) | (simp [*]; done)), (by first | rfl | (simp; done) | (simp [*]; done)), (by first | rfl | (simp; done) | (simp [*]; done)), H', ⟨by have := HK1.out; have := HK2.out; first | omega | exact Nat.le_refl _⟩, ⟨by (with_reducible repeat (first | apply Kd.R_alloc | apply Kd.R_drewN | apply Kd.R_drew)); exact Kd.R_mono HO_3.out (fun _ hk => ⟨hk.1.1, hk.2⟩)⟩, ⟨by (with_reducible repeat (first | apply Kd.R_alloc | apply Kd.R_drewN | apply Kd.R_drew)); exact HO_4.out⟩, ⟨by (with_reducible repeat (first | apply Kd.R_alloc | apply Kd.R_drewN | apply Kd.R_drew)); exact Kd.R_mono HO366.out (fun _ hk => ⟨hk.1.1.2, hk.1.2⟩)⟩, ⟨by (with_reducible repeat (first | refine blk_drewN ?_ _ | refine blk_drew ?_ | refine blk_alloc ?_ _)); exact BK359.out⟩, ⟨by repeat first | refine below_set ?_ GE359.out | exact HB.out | apply below_alloc | apply pw_below_drewN | apply below_drew1⟩⟩
           ·as_aux_lemma =>
            rw [if_neg c27] at H
            have c27b0 : ((Int.tmod (wrap64 ((Int.tmod ((rd_T71 l0 x23_1).f0) 3) + 3)) 3) == 0) = false := beq_eq_false_iff_ne.mpr c27
            have c27b1 : ((Int.tmod (wrap64 ((Int.tmod ((rd_T71 l0 x23_1).f0) 3) + 3)) 3) != 0) = true := bne_iff_ne.mpr c27
            (first | rw [c27b0] | (simp only [i64_w, i32_w]; rw [c27b0]) | skip)
            by_cases c40 : (Int.tmod (wrap64 ((Int.tmod ((rd_T71 l0 x23_1).f0) 3) + 3)) 3) = 1
            ·as_aux_lemma =>
             rw [if_pos c40] at H
             have c40b0 : ((Int.tmod (wrap64 ((Int.tmod ((rd_T71 l0 x23_1).f0) 3) + 3)) 3) == 1) = true := beq_iff_eq.mpr c40
             have c40b1 : ((Int.tmod (wrap64 ((Int.tmod ((rd_T71 l0 x23_1).f0) 3) + 3)) 3) != 1) = false := bne_eq_false_iff_eq.mpr c40
             clear c40
             replace H := Option.bind_eq_some_iff.mp H
             obtain ⟨⟨t367, t368⟩, A410, H⟩ := H
             replace H : (if ((t368 == 0) != (decide (x13_2 ≥ 0))) = true then (some false) else (if x13_2 ≥ 0 then (if 0 ≤ x13_2 then (if x13_2 < (x4_1.length : Int) then (backseatlaw16_SizeActive.j2 k2 x3_1 x4_1 (wrap64 (x5_1 + (wrap64 (1 + (Int.tmod (wrap64 ((Int.tmod ((rd_T71 l0 x23_1).f4) 9) + 9)) 9))))) (wrap64 (1 + (Int.tmod (wrap64 ((Int.tmod ((rd_T71 l0 x23_1).f1) 9) + 9)) 9))) ((rd_T48 x4_1 x13_2).f1) ((rd_T48 x4_1 x13_2).f2) t367 t368 l0 (l0.length : Int) x23_1 ((rd_T71 l0 x23_1).f0) ((rd_T71 l0 x23_1).f1) ((rd_T71 l0 x23_1).f2) ((rd_T71 l0 x23_1).f3) ((rd_T71 l0 x23_1).f4)) else (none)) else (none)) else (backseatlaw16_SizeActive.j2 k2 x3_1 x4_1 (wrap64 (x5_1 + (wrap64 (1 + (Int.tmod (wrap64 ((Int.tmod ((rd_T71 l0 x23_1).f4) 9) + 9)) 9))))) (wrap64 (1 + (Int.tmod (wrap64 ((Int.tmod ((rd_T71 l0 x23_1).f1) 9) + 9)) 9))) (wrap64 (1 + (Int.tmod (wrap64 ((Int.tmod ((rd_T71 l0 x23_1).f2) 80) + 80)) 80))) (wrap64 (2 + (Int.tmod (wrap64 ((Int.tmod ((rd_T71 l0 x23_1).f3) 49) + 49)) 49))) t367 t368 l0 (l0.length : Int) x23_1 ((rd_T71 l0 x23_1).f0) ((rd_T71 l0 x23_1).f1) ((rd_T71 l0 x23_1).f2) ((rd_T71 l0 x23_1).f3) ((rd_T71 l0 x23_1).f4)))) = some r := H
             have A41 := Aside0.mk A410
             clear A410
             by_cases c42 : ((t368 == 0) != (decide (x13_2 ≥ 0))) = true
             ·rw [if_pos c42] at H
              have c42b0 : ((t368 == 0) != (decide (x13_2 ≥ 0))) = true := c42
              (try (have c42b1 : decide ((t368 == 0) = (decide (x13_2 ≥ 0))) = false := by simpa using c42))
              (try (have c42b2 : ((t368 == 0) == (decide (x13_2 ≥ 0))) = false := by simpa using c42))
              (try (have c42b3 : ¬ ((t368 == 0) = (decide (x13_2 ≥ 0))) := by simpa using c42))
              clear c42
              obtain rfl := Option.some.inj H
              obtain ⟨Ao43, co43, eo43⟩ := Kd.R_slice HO_3.out
              subst eo43
              go_wp2_with (first | ((with_reducible refine gate_callee (f := 30) rfl ?_); refine goesL_ (some 113) rfl rfl Try.func30 (by kernel_rfl) rfl #[.slice Ao43 x3_1.length co43, .int .i64 (wrap64 (1 + (Int.tmod (wrap64 ((Int.tmod ((rd_T71 l0 x23_1).f1) 9) + 9)) 9))), .int .i64 (wrap64 (x5_1 + (wrap64 (1 + (Int.tmod (wrap64 ((Int.tmod ((rd_T71 l0 x23_1).f4) 9) + 9)) 9)))))] rfl (by (try simp only [List.map_toArray, List.map_cons, List.map_nil]); first | done | rfl | (simp only [List.length_drop, List.length_take]; rfl)) ?_; (with_reducible refine (size_Touch.calls k2 _ _ x3_1 (wrap64 (1 + (Int.tmod (wrap64 ((Int.tmod ((rd_T71 l0 x23_1).f1) 9) + 9)) 9))) (wrap64 (x5_1 + (wrap64 (1 + (Int.tmod (wrap64 ((Int.tmod ((rd_T71 l0 x23_1).f4) 9) + 9)) 9))))) t367 t368 _ ?side1 ?side2 A41.out).mono ?_); (case side1 => repeat (first | exact (Kd.R_reads' HO_3.out).2.2 | (with_reducible refine Kd.C_alloc ?_ _) | (with_reducible refine Kd.C_drewN ?_ _) | (with_reducible refine Kd.C_drew ?_))); (case side2 => exact (Kd.R_reads' HO_3.out).2.1); rintro e w44 ⟨v369, rfl, ho0, hb⟩; refine ⟨_, rfl, ?_⟩; have HO370 := Aside0.mk (Kd.R_lower (Kd.R_new' (Kd.R_new' (Kd.R_new' ho0 (Kd.R_lt (by (with_reducible repeat (first | apply Kd.R_alloc | apply Kd.R_drewN | apply Kd.R_drew)); exact HO_3.out))) (Kd.R_lt (by (with_reducible repeat (first | apply Kd.R_alloc | apply Kd.R_drewN | apply Kd.R_drew)); exact HO_4.out))) (Kd.R_lt (by (with_reducible repeat (first | apply Kd.R_alloc | apply Kd.R_drewN | apply Kd.R_drew)); exact HO_56.out))) (below_size (by repeat first | refine below_set ?_ GE359.out | exact HB.out | apply below_alloc | apply pw_below_drewN | apply below_drew1))); replace HO_3 := Aside0.mk (Kd.R_elder' (by (with_reducible repeat (first | apply Kd.R_alloc | apply Kd.R_drewN | apply Kd.R_drew)); exact HO_3.out) (Kd.R_base ho0) hb); replace HO_4 := Aside0.mk (Kd.R_elder' (by (with_reducible repeat (first | apply Kd.R_alloc | apply Kd.R_drewN | apply Kd.R_drew)); exact HO_4.out) (Kd.R_base ho0) hb); replace HO_56 := Aside0.mk (Kd.R_elder' (by (with_reducible repeat (first | apply Kd.R_alloc | apply Kd.R_drewN | apply Kd.R_drew)); exact HO_56.out) (Kd.R_base ho0) hb); replace BK359 := Aside0.mk (bb hb BK359.out); replace HB := Aside0.mk (below_step (by repeat first | refine below_set ?_ GE359.out | exact HB.out | apply below_alloc | apply pw_below_drewN | apply below_drew1) hb); (try clear hb); (try clear hb2); (try clear hk); (try clear hi); (try clear ho0)))
              go_ret
              exact ⟨by first | rfl | (simp [errW_none, errW_some] <;> rfl) | (simp [*, errW_none, errW_some] <;> rfl), by repeat first | refine below_set ?_ GE359.out | exact HB.out | apply below_alloc | apply pw_below_drewN | apply below_drew1⟩
             ·as_aux_lemma =>
              rw [if_neg c42] at H
              have c42b0 : ((t368 == 0) != (decide (x13_2 ≥ 0))) = false := by simpa using c42
              (try (have c42b1 : decide ((t368 == 0) = (decide (x13_2 ≥ 0))) = true := by simpa using c42))
              (try (have c42b2 : ((t368 == 0) == (decide (x13_2 ≥ 0))) = true := by simpa using c42))
              clear c42
              by_cases c45 : x13_2 ≥ 0
              ·as_aux_lemma =>
               rw [if_pos c45] at H
               have c45b0 : decide (0 ≤ x13_2) = true := decide_eq_true c45
               have c45y : (t368 == 0) = true := by have h_ := c42b0; rw [show decide (x13_2 ≥ 0) = true from decide_eq_true c45] at h_; simpa using h_
               clear c45
               by_cases c46 : 0 ≤ x13_2
               ·as_aux_lemma =>
                rw [if_pos c46] at H
                have c46b0 : decide (0 ≤ x13_2) = true := decide_eq_true c46
                clear c46
                by_cases c47 : x13_2 < (x4_1.length : Int)
                ·as_aux_lemma =>
                 rw [if_pos c47] at H
                 have c47b0 : decide (x13_2 < (x4_1.length : Int)) = true := decide_eq_true c47
                 clear c47
                 have H' := Aside0.mk H
                 clear H
                 obtain ⟨Ao48, co48, eo48⟩ := Kd.R_slice HO_3.out
                 subst eo48
                 try go_wp2_with (first | ((with_reducible refine gate_callee (f := 30) rfl ?_); refine goesL_ (some 113) rfl rfl Try.func30 (by kernel_rfl) rfl #[.slice Ao48 x3_1.length co48, .int .i64 (wrap64 (1 + (Int.tmod (wrap64 ((Int.tmod ((rd_T71 l0 x23_1).f1) 9) + 9)) 9))), .int .i64 (wrap64 (x5_1 + (wrap64 (1 + (Int.tmod (wrap64 ((Int.tmod ((rd_T71 l0 x23_1).f4) 9) + 9)) 9)))))] rfl (by (try simp only [List.map_toArray, List.map_cons, List.map_nil]); first | done | rfl | (simp only [List.length_drop, List.length_take]; rfl)) ?_; (with_reducible refine (size_Touch.calls k2 _ _ x3_1 (wrap64 (1 + (Int.tmod (wrap64 ((Int.tmod ((rd_T71 l0 x23_1).f1) 9) + 9)) 9))) (wrap64 (x5_1 + (wrap64 (1 + (Int.tmod (wrap64 ((Int.tmod ((rd_T71 l0 x23_1).f4) 9) + 9)) 9))))) t367 t368 _ ?side1 ?side2 A41.out).mono ?_); (case side1 => repeat (first | exact (Kd.R_reads' HO_3.out).2.2 | (with_reducible refine Kd.C_alloc ?_ _) | (with_reducible refine Kd.C_drewN ?_ _) | (with_reducible refine Kd.C_drew ?_))); (case side2 => exact (Kd.R_reads' HO_3.out).2.1); rintro e w49 ⟨v369, rfl, ho0, hb⟩; refine ⟨_, rfl, ?_⟩; have HO370 := Aside0.mk (Kd.R_lower (Kd.R_new' (Kd.R_new' (Kd.R_new' ho0 (Kd.R_lt (by (with_reducible repeat (first | apply Kd.R_alloc | apply Kd.R_drewN | apply Kd.R_drew)); exact HO_3.out))) (Kd.R_lt (by (with_reducible repeat (first | apply Kd.R_alloc | apply Kd.R_drewN | apply Kd.R_drew)); exact HO_4.out))) (Kd.R_lt (by (with_reducible repeat (first | apply Kd.R_alloc | apply Kd.R_drewN | apply Kd.R_drew)); exact HO_56.out))) (below_size (by repeat first | refine below_set ?_ GE359.out | exact HB.out | apply below_alloc | apply pw_below_drewN | apply below_drew1))); replace HO_3 := Aside0.mk (Kd.R_elder' (by (with_reducible repeat (first | apply Kd.R_alloc | apply Kd.R_drewN | apply Kd.R_drew)); exact HO_3.out) (Kd.R_base ho0) hb); replace HO_4 := Aside0.mk (Kd.R_elder' (by (with_reducible repeat (first | apply Kd.R_alloc | apply Kd.R_drewN | apply Kd.R_drew)); exact HO_4.out) (Kd.R_base ho0) hb); replace HO_56 := Aside0.mk (Kd.R_elder' (by (with_reducible repeat (first | apply Kd.R_alloc | apply Kd.R_drewN | apply Kd.R_drew)); exact HO_56.out) (Kd.R_base ho0) hb); replace BK359 := Aside0.mk (bb hb BK359.out); replace HB := Aside0.mk (below_step (by repeat first | refine below_set ?_ GE359.out | exact HB.out | apply below_alloc | apply pw_below_drewN | apply below_drew1) hb); (try clear hb); (try clear hb2); (try clear hk); (try clear hi); (try clear ho0)))
                 replace HO_3 := Aside0.mk (Kd.R_drew HO_3.out); replace HO_4 := Aside0.mk (Kd.R_drew HO_4.out); replace HO_56 := Aside0.mk (Kd.R_drew HO_56.out); replace HO370 := Aside0.mk (Kd.R_drew HO370.out); replace BK359 := Aside0.mk (blk_drew BK359.out); replace HB := Aside0.mk (below_drew1 HB.out)
                 have p371 : 0 ≤ (x13_2 : Int) := of_decide_eq_true (by first | (with_reducible assumption) | assumption)
                 have q371 : x13_2 < (x4_1.length : Int) := of_decide_eq_true (by first | (with_reducible assumption) | assumption)
                 obtain ⟨ad371, e371, hx371_0, hx371_1, hx371_2, hx371_3⟩ := at_T48 (Kd.R_reads' HO_4.out).2.2 x13_2 p371 q371
                 cases e371
                 replace p371 := eq_true p371
                 replace q371 := eq_true q371
                 have p372 : 0 ≤ (x13_2 : Int) := of_decide_eq_true (by first | (with_reducible assumption) | assumption)
                 have q372 : x13_2 < (x4_1.length : Int) := of_decide_eq_true (by first | (with_reducible assumption) | assumption)
                 obtain ⟨ad372, e372, hx372_0, hx372_1, hx372_2, hx372_3⟩ := at_T48 (Kd.R_reads' HO_4.out).2.2 x13_2 p372 q372
                 obtain rfl : ad371 = ad372 := (by injection e372)
                 replace p372 := eq_true p372
                 replace q372 := eq_true q372
                 refine start_ (n := 12) (S := fun w' => w'.cell? (ad371.add ((x13_2).toNat * 4)) = some (.int .i64 ((rd_T48 x4_1 x13_2).f0)) ∧ w'.cell? ⟨(ad371.add ((x13_2).toNat * 4)).block, (ad371.add ((x13_2).toNat * 4)).off + 1, none⟩ = some (.int .i64 ((rd_T48 x4_1 x13_2).f1)) ∧ w'.cell? ⟨(ad371.add ((x13_2).toNat * 4)).block, (ad371.add ((x13_2).toNat * 4)).off + 2, none⟩ = some (.int .i64 ((rd_T48 x4_1 x13_2).f2)) ∧ w'.cell? ⟨(ad371.add ((x13_2).toNat * 4)).block, (ad371.add ((x13_2).toNat * 4)).off + 3, none⟩ = some (.int .i64 ((rd_T48 x4_1 x13_2).f3)) ∧ w'.cell? (ad371.add ((x13_2).toNat * 4)) = some (.int .i64 ((rd_T48 x4_1 x13_2).f0)) ∧ w'.cell? ⟨(ad371.add ((x13_2).toNat * 4)).block, (ad371.add ((x13_2).toNat * 4)).off + 1, none⟩ = some (.int .i64 ((rd_T48 x4_1 x13_2).f1)) ∧ w'.cell? ⟨(ad371.add ((x13_2).toNat * 4)).block, (ad371.add ((x13_2).toNat * 4)).off + 2, none⟩ = some (.int .i64 ((rd_T48 x4_1 x13_2).f2)) ∧ w'.cell? ⟨(ad371.add ((x13_2).toNat * 4)).block, (ad371.add ((x13_2).toNat * 4)).off + 3, none⟩ = some (.int .i64 ((rd_T48 x4_1 x13_2).f3))) (ds := []) #[false, false, false, false, false, false, false, false, false, false, false, false] (by kernel_rfl) rfl rfl ⟨hx371_0, hx371_1, hx371_2, hx371_3, hx372_0, hx372_1, hx372_2, hx372_3⟩ (fun hHeld => ?_); refine with_tabW backseatlaw16_SizeActive.tab32 backseatlaw16_SizeActive.bits32 (fun HT_ HW_ => ?_)
                 generalize w49.drew = w50 at HO_3 HO_4 HO_56 HO370 BK359 HB hx371_0 hx371_1 hx371_2 hx371_3 hx372_0 hx372_1 hx372_2 hx372_3 hHeld ⊢
                 refine pu HT_.out (i := 0) (N := some 123) (v := ?_) (a' := ?_) m9_21_ rfl rfl (by kernel_rfl) (fun _ _ _ h => h) (by rfl) ?_ ?_ ?_; rotate_left; (·intro w'; go_simp; with_reducible rfl); rotate_left; (·simp only [Act.put, s1, s2, s3, i64_w, i32_w]; rfl)
                 refine pu HT_.out (i := 1) (N := some 124) (v := ?_) (a' := ?_) m9_22_ rfl rfl (by kernel_rfl) (fun _ _ _ h => h) (by rfl) ?_ ?_ ?_; rotate_left; (·intro w'; go_simp; with_reducible rfl); rotate_left; (·simp only [Act.put, s1, s2, s3, i64_w, i32_w]; rfl)
                 refine pu HT_.out (i := 2) (N := some 125) (v := ?_) (a' := ?_) m9_23_ rfl rfl (by kernel_rfl) (fun _ _ _ h => h) (by rfl) ?_ ?_ ?_; rotate_left; (·intro w'; go_simp; with_reducible rfl); rotate_left; (·simp only [Act.put, s1, s2, s3, i64_w, i32_w]; rfl)
                 refine pu HT_.out (i := 3) (N := some 126) (v := ?_) (a' := ?_) m9_24_ rfl rfl (by kernel_rfl) (fun _ _ _ h => h) (by rfl) ?_ ?_ ?_; rotate_left; (·intro w'; go_simp; with_reducible rfl); rotate_left; (·simp only [Act.put, s1, s2, s3, i64_w, i32_w]; rfl)
                 refine pu HT_.out (i := 5) (N := some 128) (v := ?_) (a' := ?_) m9_25_ rfl rfl (by kernel_rfl) (fun _ _ _ h => h) (by rfl) ?_ ?_ ?_; rotate_left; (·intro w'; go_simp; with_reducible rfl); rotate_left; (·simp only [Act.put, s1, s2, s3, i64_w, i32_w]; rfl)
                 refine pu HT_.out (i := 6) (N := some 129) (v := ?_) (a' := ?_) m9_26_ rfl rfl (by kernel_rfl) (fun _ _ _ h => h) (by rfl) ?_ ?_ ?_; rotate_left; (·intro w'; go_simp; with_reducible rfl); rotate_left; (·simp only [Act.put, s1, s2, s3, i64_w, i32_w]; rfl)
                 refine pu HT_.out (i := 7) (N := some 130) (v := ?_) (a' := ?_) m9_27_ rfl rfl (by kernel_rfl) (fun _ _ _ h => h) (by rfl) ?_ ?_ ?_; rotate_left; (·intro w'; go_simp; with_reducible rfl); rotate_left; (·simp only [Act.put, s1, s2, s3, i64_w, i32_w]; rfl)
                 refine pu HT_.out (i := 8) (N := some 131) (v := ?_) (a' := ?_) m9_28_ rfl rfl (by kernel_rfl) (fun _ _ _ h => h) (by rfl) ?_ ?_ ?_; rotate_left; (·intro w'; go_simp; with_reducible rfl); rotate_left; (·simp only [Act.put, s1, s2, s3, i64_w, i32_w]; rfl)
                 refine take_ (i := 4) (N := some 127) (v := ?_) (a' := ?_) m9_29_ rfl rfl (take_ofW HT_.out HW_.out (by kernel_rfl)) (fun _ _ _ h => h) (Or.inl ⟨by rfl, ?_⟩) hHeld ?_ ?_; rotate_left; (·rintro w' ⟨s0, s1, s2, s3, s4, s5, s6, s7⟩; go_simp; with_reducible rfl); rotate_left; (·simp only [Act.put, s1, s2, s3, i64_w, i32_w]; rfl)
                 refine pu HT_.out (i := 10) (N := some 9) (v := ?_) (a' := ?_) m9_30_ rfl rfl (by kernel_rfl) (fun _ _ _ h => h) (by rfl) ?_ ?_ ?_; rotate_left; (·intro w'; go_simp; with_reducible rfl); rotate_left; (·simp only [Act.put, s1, s2, s3, i64_w, i32_w]; rfl)
                 refine take_ (i := 9) (N := some 132) (v := ?_) (a' := ?_) m9_31_ rfl rfl (take_ofW HT_.out HW_.out (by kernel_rfl)) (fun _ _ _ h => h) (Or.inl ⟨by rfl, ?_⟩) hHeld ?_ ?_; rotate_left; (·rintro w' ⟨s0, s1, s2, s3, s4, s5, s6, s7⟩; go_simp; with_reducible rfl); rotate_left; (·simp only [Act.put, s1, s2, s3, i64_w, i32_w]; rfl)
                 refine pu HT_.out (i := 11) (N := some 10) (v := ?_) (a' := ?_) m9_32_ rfl rfl (by kernel_rfl) (fun _ _ _ h => h) (by rfl) ?_ ?_ ?_; rotate_left; (·intro w'; go_simp; with_reducible rfl); rotate_left; (·simp only [Act.put, s1, s2, s3, i64_w, i32_w]; rfl)
                 refine done_ (done_of HT_.out (by kernel_rfl)) ?_
                 try go_wp2
                 go_meet
                 case rel => exact ⟨_, ((rd_T48 x4_1 x13_2).f1), ((rd_T48 x4_1 x13_2).f2), (t367), (t368), (by first | rfl | (simp; done) | (simp [*]; done)), (by first | rfl | (simp; done) | (simp [*]; done)), (by first | rfl | (simp; done) | (simp [*]; done)), H', ⟨by have := HK1.out; have := HK2.out; first | omega | exact Nat.le_refl _⟩, ⟨by (with_reducible repeat (first | apply Kd.R_alloc | apply Kd.R_drewN | apply Kd.R_drew)); exact Kd.R_mono HO_3.out (fun _ hk => ⟨hk.1.1, hk.2⟩)⟩, ⟨by (with_reducible repeat (first | apply Kd.R_alloc | apply Kd.R_drewN | apply Kd.R_drew)); exact HO_4.out⟩, ⟨by (with_reducible repeat (first | apply Kd.R_alloc | apply Kd.R_drewN | apply Kd.R_drew)); exact Kd.R_mono HO370.out (fun _ hk => ⟨hk.1.1.2, hk.1.2⟩)⟩, ⟨by (with_reducible repeat (first | refine blk_drewN ?_ _ | refine blk_drew ?_ | refine blk_alloc ?_ _)); exact BK359.out⟩, ⟨by repeat first | refine below_set ?_ GE359.out | exact HB.out | apply below_alloc | apply pw_below_drewN | apply below_drew1⟩⟩
                ·rw [if_neg c47] at H
                 exact absurd H (by simp)
               ·rw [if_neg c46] at H
                exact absurd H (by simp)
              ·rw [if_neg c45] at H
               have c45b0 : decide (0 ≤ x13_2) = false := decide_eq_false c45
               have c45z : (t368 == 0) = false := by have h_ := c42b0; rw [show decide (x13_2 ≥ 0) = false from decide_eq_false c45] at h_; simpa using h_
               clear c45
               have H' := Aside0.mk H
               clear H
               obtain ⟨Ao51, co51, eo51⟩ := Kd.R_slice HO_3.out
               subst eo51
               go_wp2_with (first | ((with_reducible refine gate_callee (f := 30) rfl ?_); refine goesL_ (some 113) rfl rfl Try.func30 (by kernel_rfl) rfl #[.slice Ao51 x3_1.length co51, .int .i64 (wrap64 (1 + (Int.tmod (wrap64 ((Int.tmod ((rd_T71 l0 x23_1).f1) 9) + 9)) 9))), .int .i64 (wrap64 (x5_1 + (wrap64 (1 + (Int.tmod (wrap64 ((Int.tmod ((rd_T71 l0 x23_1).f4) 9) + 9)) 9)))))] rfl (by (try simp only [List.map_toArray, List.map_cons, List.map_nil]); first | done | rfl | (simp only [List.length_drop, List.length_take]; rfl)) ?_; (with_reducible refine (size_Touch.calls k2 _ _ x3_1 (wrap64 (1 + (Int.tmod (wrap64 ((Int.tmod ((rd_T71 l0 x23_1).f1) 9) + 9)) 9))) (wrap64 (x5_1 + (wrap64 (1 + (Int.tmod (wrap64 ((Int.tmod ((rd_T71 l0 x23_1).f4) 9) + 9)) 9))))) t367 t368 _ ?side1 ?side2 A41.out).mono ?_); (case side1 => repeat (first | exact (Kd.R_reads' HO_3.out).2.2 | (with_reducible refine Kd.C_alloc ?_ _) | (with_reducible refine Kd.C_drewN ?_ _) | (with_reducible refine Kd.C_drew ?_))); (case side2 => exact (Kd.R_reads' HO_3.out).2.1); rintro e w52 ⟨v369, rfl, ho0, hb⟩; refine ⟨_, rfl, ?_⟩; have HO370 := Aside0.mk (Kd.R_lower (Kd.R_new' (Kd.R_new' (Kd.R_new' ho0 (Kd.R_lt (by (with_reducible repeat (first | apply Kd.R_alloc | apply Kd.R_drewN | apply Kd.R_drew)); exact HO_3.out))) (Kd.R_lt (by (with_reducible repeat (first | apply Kd.R_alloc | apply Kd.R_drewN | apply Kd.R_drew)); exact HO_4.out))) (Kd.R_lt (by (with_reducible repeat (first | apply Kd.R_alloc | apply Kd.R_drewN | apply Kd.R_drew)); exact HO_56.out))) (below_size (by repeat first | refine below_set ?_ GE359.out | exact HB.out | apply below_alloc | apply pw_below_drewN | apply below_drew1))); replace HO_3 := Aside0.mk (Kd.R_elder' (by (with_reducible repeat (first | apply Kd.R_alloc | apply Kd.R_drewN | apply Kd.R_drew)); exact HO_3.out) (Kd.R_base ho0) hb); replace HO_4 := Aside0.mk (Kd.R_elder' (by (with_reducible repeat (first | apply Kd.R_alloc | apply Kd.R_drewN | apply Kd.R_drew)); exact HO_4.out) (Kd.R_base ho0) hb); replace HO_56 := Aside0.mk (Kd.R_elder' (by (with_reducible repeat (first | apply Kd.R_alloc | apply Kd.R_drewN | apply Kd.R_drew)); exact HO_56.out) (Kd.R_base ho0) hb); replace BK359 := Aside0.mk (bb hb BK359.out); replace HB := Aside0.mk (below_step (by repeat first | refine below_set ?_ GE359.out | exact HB.out | apply below_alloc | apply pw_below_drewN | apply below_drew1) hb); (try clear hb); (try clear hb2); (try clear hk); (try clear hi); (try clear ho0)))
               go_meet
               case rel => exact ⟨_, ((wrap64 (1 + (Int.tmod (wrap64 ((Int.tmod ((rd_T71 l0 x23_1).f2) 80) + 80)) 80)))), ((wrap64 (2 + (Int.tmod (wrap64 ((Int.tmod ((rd_T71 l0 x23_1).f3) 49) + 49)) 49)))), (t367), (t368), (by first | rfl | (simp; done) | (simp [*]; done)), (by first | rfl | (simp; done) | (simp [*]; done)), (by first | rfl | (simp; done) | (simp [*]; done)), H', ⟨by have := HK1.out; have := HK2.out; first | omega | exact Nat.le_refl _⟩, ⟨by (with_reducible repeat (first | apply Kd.R_alloc | apply Kd.R_drewN | apply Kd.R_drew)); exact Kd.R_mono HO_3.out (fun _ hk => ⟨hk.1.1, hk.2⟩)⟩, ⟨by (with_reducible repeat (first | apply Kd.R_alloc | apply Kd.R_drewN | apply Kd.R_drew)); exact HO_4.out⟩, ⟨by (with_reducible repeat (first | apply Kd.R_alloc | apply Kd.R_drewN | apply Kd.R_drew)); exact Kd.R_mono HO370.out (fun _ hk => ⟨hk.1.1.2, hk.1.2⟩)⟩, ⟨by (with_reducible repeat (first | refine blk_drewN ?_ _ | refine blk_drew ?_ | refine blk_alloc ?_ _)); exact BK359.out⟩, ⟨by repeat first | refine below_set ?_ GE359.out | exact HB.out | apply below_alloc | apply pw_below_drewN | apply below_drew1⟩⟩
            ·as_aux_lemma =>
             rw [if_neg c40] at H
             have c40b0 : ((Int.tmod (wrap64 ((Int.tmod ((rd_T71 l0 x23_1).f0) 3) + 3)) 3) == 1) = false := beq_eq_false_iff_ne.mpr c40
             have c40b1 : ((Int.tmod (wrap64 ((Int.tmod ((rd_T71 l0 x23_1).f0) 3) + 3)) 3) != 1) = true := bne_iff_ne.mpr c40
             replace H := Option.bind_eq_some_iff.mp H
             obtain ⟨⟨t373, t374⟩, A530, H⟩ := H
             replace H : (if ((t374 == 0) != (decide (x13_2 ≥ 0))) = true then (some false) else (backseatlaw16_SizeActive.j2 k2 x3_1 x4_1 (wrap64 (x5_1 + (wrap64 (1 + (Int.tmod (wrap64 ((Int.tmod ((rd_T71 l0 x23_1).f4) 9) + 9)) 9))))) (wrap64 (1 + (Int.tmod (wrap64 ((Int.tmod ((rd_T71 l0 x23_1).f1) 9) + 9)) 9))) (wrap64 (1 + (Int.tmod (wrap64 ((Int.tmod ((rd_T71 l0 x23_1).f2) 80) + 80)) 80))) (wrap64 (2 + (Int.tmod (wrap64 ((Int.tmod ((rd_T71 l0 x23_1).f3) 49) + 49)) 49))) t373 t374 l0 (l0.length : Int) x23_1 ((rd_T71 l0 x23_1).f0) ((rd_T71 l0 x23_1).f1) ((rd_T71 l0 x23_1).f2) ((rd_T71 l0 x23_1).f3) ((rd_T71 l0 x23_1).f4))) = some r := H
             have A53 := Aside0.mk A530
             clear A530
             by_cases c54 : ((t374 == 0) != (decide (x13_2 ≥ 0))) = true
             ·rw [if_pos c54] at H
              have c54b0 : ((t374 == 0) != (decide (x13_2 ≥ 0))) = true := c54
              (try (have c54b1 : decide ((t374 == 0) = (decide (x13_2 ≥ 0))) = false := by simpa using c54))
              (try (have c54b2 : ((t374 == 0) == (decide (x13_2 ≥ 0))) = false := by simpa using c54))
              (try (have c54b3 : ¬ ((t374 == 0) = (decide (x13_2 ≥ 0))) := by simpa using c54))
              clear c54
              obtain rfl := Option.some.inj H
              obtain ⟨Ao55, co55, eo55⟩ := Kd.R_slice HO_3.out
              subst eo55
              go_wp2_with (first | ((with_reducible refine gate_callee (f := 31) rfl ?_); refine goesL_ (some 77) rfl rfl Try.func31 (by kernel_rfl) rfl #[.slice Ao55 x3_1.length co55, .int .i64 (wrap64 (1 + (Int.tmod (wrap64 ((Int.tmod ((rd_T71 l0 x23_1).f1) 9) + 9)) 9)))] rfl (by (try simp only [List.map_toArray, List.map_cons, List.map_nil]); first | done | rfl | (simp only [List.length_drop, List.length_take]; rfl)) ?_; (with_reducible refine (size_Leave.calls k2 _ _ x3_1 (wrap64 (1 + (Int.tmod (wrap64 ((Int.tmod ((rd_T71 l0 x23_1).f1) 9) + 9)) 9))) t373 t374 _ ?side1 ?side2 A53.out).mono ?_); (case side1 => repeat (first | exact (Kd.R_reads' HO_3.out).2.2 | (with_reducible refine Kd.C_alloc ?_ _) | (with_reducible refine Kd.C_drewN ?_ _) | (with_reducible refine Kd.C_drew ?_))); (case side2 => exact (Kd.R_reads' HO_3.out).2.1); rintro e w56 ⟨v375, rfl, ho0, hb⟩; refine ⟨_, rfl, ?_⟩; have HO376 := Aside0.mk (Kd.R_lower (Kd.R_new' (Kd.R_new' (Kd.R_new' ho0 (Kd.R_lt (by (with_reducible repeat (first | apply Kd.R_alloc | apply Kd.R_drewN | apply Kd.R_drew)); exact HO_3.out))) (Kd.R_lt (by (with_reducible repeat (first | apply Kd.R_alloc | apply Kd.R_drewN | apply Kd.R_drew)); exact HO_4.out))) (Kd.R_lt (by (with_reducible repeat (first | apply Kd.R_alloc | apply Kd.R_drewN | apply Kd.R_drew)); exact HO_56.out))) (below_size (by repeat first | refine below_set ?_ GE359.out | exact HB.out | apply below_alloc | apply pw_below_drewN | apply below_drew1))); replace HO_3 := Aside0.mk (Kd.R_elder' (by (with_reducible repeat (first | apply Kd.R_alloc | apply Kd.R_drewN | apply Kd.R_drew)); exact HO_3.out) (Kd.R_base ho0) hb); replace HO_4 := Aside0.mk (Kd.R_elder' (by (with_reducible repeat (first | apply Kd.R_alloc | apply Kd.R_drewN | apply Kd.R_drew)); exact HO_4.out) (Kd.R_base ho0) hb); replace HO_56 := Aside0.mk (Kd.R_elder' (by (with_reducible repeat (first | apply Kd.R_alloc | apply Kd.R_drewN | apply Kd.R_drew)); exact HO_56.out) (Kd.R_base ho0) hb); replace BK359 := Aside0.mk (bb hb BK359.out); replace HB := Aside0.mk (below_step (by repeat first | refine below_set ?_ GE359.out | exact HB.out | apply below_alloc | apply pw_below_drewN | apply below_drew1) hb); (try clear hb); (try clear hb2); (try clear hk); (try clear hi); (try clear ho0)))
              go_ret
              exact ⟨by first | rfl | (simp [errW_none, errW_some] <;> rfl) | (simp [*, errW_none, errW_some] <;> rfl), by repeat first | refine below_set ?_ GE359.out | exact HB.out | apply below_alloc | apply pw_below_drewN | apply below_drew1⟩
             ·rw [if_neg c54] at H
              have c54b0 : ((t374 == 0) != (decide (x13_2 ≥ 0))) = false := by simpa using c54
              (try (have c54b1 : decide ((t374 == 0) = (decide (x13_2 ≥ 0))) = true := by simpa using c54))
              (try (have c54b2 : ((t374 == 0) == (decide (x13_2 ≥ 0))) = true := by simpa using c54))
              clear c54
              have H' := Aside0.mk H
              clear H
              obtain ⟨Ao57, co57, eo57⟩ := Kd.R_slice HO_3.out
              subst eo57
              go_wp2_with (first | ((with_reducible refine gate_callee (f := 31) rfl ?_); refine goesL_ (some 77) rfl rfl Try.func31 (by kernel_rfl) rfl #[.slice Ao57 x3_1.length co57, .int .i64 (wrap64 (1 + (Int.tmod (wrap64 ((Int.tmod ((rd_T71 l0 x23_1).f1) 9) + 9)) 9)))] rfl (by (try simp only [List.map_toArray, List.map_cons, List.map_nil]); first | done | rfl | (simp only [List.length_drop, List.length_take]; rfl)) ?_; (with_reducible refine (size_Leave.calls k2 _ _ x3_1 (wrap64 (1 + (Int.tmod (wrap64 ((Int.tmod ((rd_T71 l0 x23_1).f1) 9) + 9)) 9))) t373 t374 _ ?side1 ?side2 A53.out).mono ?_); (case side1 => repeat (first | exact (Kd.R_reads' HO_3.out).2.2 | (with_reducible refine Kd.C_alloc ?_ _) | (with_reducible refine Kd.C_drewN ?_ _) | (with_reducible refine Kd.C_drew ?_))); (case side2 => exact (Kd.R_reads' HO_3.out).2.1); rintro e w58 ⟨v375, rfl, ho0, hb⟩; refine ⟨_, rfl, ?_⟩; have HO376 := Aside0.mk (Kd.R_lower (Kd.R_new' (Kd.R_new' (Kd.R_new' ho0 (Kd.R_lt (by (with_reducible repeat (first | apply Kd.R_alloc | apply Kd.R_drewN | apply Kd.R_drew)); exact HO_3.out))) (Kd.R_lt (by (with_reducible repeat (first | apply Kd.R_alloc | apply Kd.R_drewN | apply Kd.R_drew)); exact HO_4.out))) (Kd.R_lt (by (with_reducible repeat (first | apply Kd.R_alloc | apply Kd.R_drewN | apply Kd.R_drew)); exact HO_56.out))) (below_size (by repeat first | refine below_set ?_ GE359.out | exact HB.out | apply below_alloc | apply pw_below_drewN | apply below_drew1))); replace HO_3 := Aside0.mk (Kd.R_elder' (by (with_reducible repeat (first | apply Kd.R_alloc | apply Kd.R_drewN | apply Kd.R_drew)); exact HO_3.out) (Kd.R_base ho0) hb); replace HO_4 := Aside0.mk (Kd.R_elder' (by (with_reducible repeat (first | apply Kd.R_alloc | apply Kd.R_drewN | apply Kd.R_drew)); exact HO_4.out) (Kd.R_base ho0) hb); replace HO_56 := Aside0.mk (Kd.R_elder' (by (with_reducible repeat (first | apply Kd.R_alloc | apply Kd.R_drewN | apply Kd.R_drew)); exact HO_56.out) (Kd.R_base ho0) hb); replace BK359 := Aside0.mk (bb hb BK359.out); replace HB := Aside0.mk (below_step (by repeat first | refine below_set ?_ GE359.out | exact HB.out | apply below_alloc | apply pw_below_drewN | apply below_drew1) hb); (try clear hb); (try clear hb2); (try clear hk); (try clear hi); (try clear ho0)))
              go_meet
              case rel => exact ⟨_, ((wrap64 (1 + (Int.tmod (wrap64 ((Int.tmod ((rd_T71 l0 x23_1).f2) 80) + 80)) 80)))), ((wrap64 (2 + (Int.tmod (wrap64 ((Int.tmod ((rd_T71 l0 x23_1).f3) 49) + 49)) 49)))), (t373), (t374), (by first | rfl | (simp; done) | (simp [*]; done)), (by first | rfl | (simp; done) | (simp [*]; done)), (by first | rfl | (simp; done) | (simp [*]; done)), H', ⟨by have := HK1.out; have := HK2.out; first | omega | exact Nat.le_refl _⟩, ⟨by (with_reducible repeat (first | apply Kd.R_alloc | apply Kd.R_drewN | apply Kd.R_drew)); exact Kd.R_mono HO_3.out (fun _ hk => ⟨hk.1.1, hk.2⟩)⟩, ⟨by (with_reducible repeat (first | apply Kd.R_alloc | apply Kd.R_drewN | apply Kd.R_drew)); exact HO_4.out⟩, ⟨by (with_reducible repeat (first | apply Kd.R_alloc | apply Kd.R_drewN | apply Kd.R_drew)); exact Kd.R_mono HO376.out (fun _ hk => ⟨hk.1.1.2, hk.1.2⟩)⟩, ⟨by (with_reducible repeat (first | refine blk_drewN ?_ _ | refine blk_drew ?_ | refine blk_alloc ?_ _)); exact BK359.out⟩, ⟨by repeat first | refine below_set ?_ GE359.out | exact HB.out | apply below_alloc | apply pw_below_drewN | apply below_drew1⟩⟩
          case rest =>
           clear HC25
           (try clear c1); (try clear c2); (try clear c2b0); (try clear p2); (try clear c3); (try clear c3b0); (try clear p3); (try clear q3); (try clear hx3); (try clear c4); (try clear c4b0); (try clear c5); (try clear c5b0); (try clear p6); (try clear c9); (try clear c15); (try clear c15b0); (try clear c16); (try clear c16b0); (try clear c17); (try clear c17b0); (try clear c18); (try clear c18b0); (try clear c18b1); (try clear c20); (try clear c23); (try clear c27); (try clear c27b0); (try clear c27b1); (try clear c29); (try clear c29b0); (try clear c29b1); (try clear c30); (try clear c31); (try clear c32); (try clear c32b0); (try clear c35); (try clear c35b0); (try clear c35b1); (try clear p35); (try clear q35); (try clear hx35); (try clear p36); (try clear q36); (try clear hx36); (try clear p37); (try clear q37); (try clear hx37); (try clear c40); (try clear c40b0); (try clear c40b1); (try clear c42); (try clear c42b0); (try clear c42b1); (try clear c42b2); (try clear c45); (try clear c45b0); (try clear c46); (try clear c46b0); (try clear c47); (try clear c47b0); (try clear c54); (try clear c54b0); (try clear c54b1); (try clear c54b2); (try clear hcz11_0); (try clear hcz11_1); (try clear hcz11_2); (try clear hcz11_3); (try clear hcz11_4); (try clear hcz21_0); (try clear hcz21_1); (try clear hcz21_2); (try clear hcz21_3); (try clear hcz24_0); (try clear hcz24_1); (try clear hcz24_2); (try clear hcz24_3); (try clear hcz26_0); (try clear hcz26_1); (try clear hcz26_2); (try clear hcz26_3); (try clear hcz26_4); (try clear hcz8_0); (try clear hcz8_1); (try clear hcz8_2); (try clear hcz8_3); (try clear hcz8_4); (try clear hfz11_0); (try clear hfz11_1); (try clear hfz11_2); (try clear hfz11_3); (try clear hfz11_4); (try clear hfz21_0); (try clear hfz21_1); (try clear hfz21_2); (try clear hfz21_3); (try clear hfz24_0); (try clear hfz24_1); (try clear hfz24_2); (try clear hfz24_3); (try clear hfz26_0); (try clear hfz26_1); (try clear hfz26_2); (try clear hfz26_3); (try clear hfz26_4); (try clear hfz8_0); (try clear hfz8_1); (try clear hfz8_2); (try clear hfz8_3); (try clear hfz8_4); (try clear hx358_0); (try clear hx358_1); (try clear hx358_2); (try clear hx358_3); (try clear hx358_4); (try clear hx361_0); (try clear hx361_1); (try clear hx361_2); (try clear hx361_3); (try clear hx371_0); (try clear hx371_1); (try clear hx371_2); (try clear hx371_3); (try clear hx372_0); (try clear hx372_1); (try clear hx372_2); (try clear hx372_3); (try clear p2); (try clear p3); (try clear p358); (try clear p361); (try clear p371); (try clear p372); (try clear p6); (try clear q3); (try clear q358); (try clear q361); (try clear q371); (try clear q372)
           obtain ⟨kq, x9_24, x10_24, x11_24, x12_24, rfl, rfl, rfl, HA, HJ24, HO_3, HO_4, HO_11, BK359, HB⟩ := hcut
           cases kq with
           | zero => exact absurd HA.out (by simp [backseatlaw16_SizeActive.j2])
           | succ kj24 =>
            have H := HA.out
            clear HA
            simp only [backseatlaw16_SizeActive.j2] at H
            by_cases c59 : x12_24 = 0
            ·as_aux_lemma =>
             rw [if_pos c59] at H
             have c59b0 : (x12_24 == 0) = true := beq_iff_eq.mpr c59
             have c59b1 : (x12_24 != 0) = false := bne_eq_false_iff_eq.mpr c59
             clear c59
             have H' := Aside0.mk H
             clear H
             go_wp2
             go_loopg [16, 138] kj24 (fun kq v16 v138 w' => ∃ (x16_4 : List (S48)) (x138_4 : Int), v138 = .int .i64 x138_4 ∧ Aside0 (backseatlaw16_SizeActive.l2 kq x11_24 (wrap64 (x5_1 + (wrap64 (1 + (Int.tmod (wrap64 ((Int.tmod ((rd_T71 l0 x23_1).f4) 9) + 9)) 9))))) (wrap64 (1 + (Int.tmod (wrap64 ((Int.tmod ((rd_T71 l0 x23_1).f1) 9) + 9)) 9))) x9_24 x10_24 x16_4 l0 (l0.length : Int) x23_1 x4_1 (x4_1.length : Int) x138_4 ((rd_T71 l0 x23_1).f0) ((rd_T71 l0 x23_1).f1) ((rd_T71 l0 x23_1).f2) ((rd_T71 l0 x23_1).f3) ((rd_T71 l0 x23_1).f4) = some r) ∧ Aside0 (kq ≤ kj24) ∧ Aside0 (Kd.R k48 48 w' w.heap.size (fun k_ => some k_ ≠ (v16 : Value).ownBlock ∧ some k_ ≠ ((.slice Ao14 x4_1.length co14) : Value).ownBlock) u11 x11_24) ∧ Aside0 (Kd.R k48 48 w' w.heap.size (fun k_ => some k_ ≠ (u11 : Value).ownBlock ∧ some k_ ≠ ((.slice Ao14 x4_1.length co14) : Value).ownBlock) v16 x16_4) ∧ Aside0 (Kd.R k48 48 w' w.heap.size (fun k_ => some k_ ≠ (u11 : Value).ownBlock ∧ some k_ ≠ (v16 : Value).ownBlock) (.slice Ao14 x4_1.length co14) x4_1) ∧ Aside0 (w'.heap[gb359]? = some (.cells #[.int .i64 ((rd_T71 l0 x23_1).f0), .int .i64 ((rd_T71 l0 x23_1).f1), .int .i64 ((rd_T71 l0 x23_1).f2), .int .i64 ((rd_T71 l0 x23_1).f3), .int .i64 ((rd_T71 l0 x23_1).f4)] 71 (0, 0))) ∧ Aside0 (Below w.heap.size w w'))
             case atStart => exact ⟨(([] : List (S48))), (0), (by first | rfl | (simp; done) | (simp [*]; done)), H', ⟨Nat.le_refl _⟩, ⟨by (with_reducible repeat (first | apply Kd.R_alloc | apply Kd.R_drewN | apply Kd.R_drew)); exact Kd.R_mono HO_11.out (fun _ hk => ⟨(by simp [Value.ownBlock]), hk.2⟩)⟩, ⟨by first | exact Kd.R_nil _ _ _ _ _ | exact Kd.N_nil _ _ _ _ _ | exact Kd.V_nil _ _ _ _ _ | exact Kd.Q_nil _ _ _ _ _ | exact Kd.S_nil _ _ _ _ _⟩, ⟨by (with_reducible repeat (first | apply Kd.R_alloc | apply Kd.R_drewN | apply Kd.R_drew)); exact Kd.R_mono HO_4.out (fun _ hk => ⟨hk.2, (by simp [Value.ownBlock])⟩)⟩, ⟨by (with_reducible repeat (first | refine blk_drewN ?_ _ | refine blk_drew ?_ | refine blk_alloc ?_ _)); exact BK359.out⟩, ⟨by repeat first | refine below_set ?_ GE359.out | exact HB.out | apply below_alloc | apply pw_below_drewN | apply below_drew1⟩⟩
             case round =>
              clear H'
              (try clear c1); (try clear c2); (try clear c2b0); (try clear p2); (try clear c3); (try clear c3b0); (try clear p3); (try clear q3); (try clear hx3); (try clear c4); (try clear c4b0); (try clear c5); (try clear c5b0); (try clear p6); (try clear c9); (try clear c15); (try clear c15b0); (try clear c16); (try clear c16b0); (try clear c17); (try clear c17b0); (try clear c18); (try clear c18b0); (try clear c18b1); (try clear c20); (try clear c23); (try clear c27); (try clear c27b0); (try clear c27b1); (try clear c29); (try clear c29b0); (try clear c29b1); (try clear c30); (try clear c31); (try clear c32); (try clear c32b0); (try clear c35); (try clear c35b0); (try clear c35b1); (try clear p35); (try clear q35); (try clear hx35); (try clear p36); (try clear q36); (try clear hx36); (try clear p37); (try clear q37); (try clear hx37); (try clear c40); (try clear c40b0); (try clear c40b1); (try clear c42); (try clear c42b0); (try clear c42b1); (try clear c42b2); (try clear c45); (try clear c45b0); (try clear c46); (try clear c46b0); (try clear c47); (try clear c47b0); (try clear c54); (try clear c54b0); (try clear c54b1); (try clear c54b2); (try clear c59); (try clear c59b0); (try clear c59b1); (try clear hcz11_0); (try clear hcz11_1); (try clear hcz11_2); (try clear hcz11_3); (try clear hcz11_4); (try clear hcz21_0); (try clear hcz21_1); (try clear hcz21_2); (try clear hcz21_3); (try clear hcz24_0); (try clear hcz24_1); (try clear hcz24_2); (try clear hcz24_3); (try clear hcz26_0); (try clear hcz26_1); (try clear hcz26_2); (try clear hcz26_3); (try clear hcz26_4); (try clear hcz8_0); (try clear hcz8_1); (try clear hcz8_2); (try clear hcz8_3); (try clear hcz8_4); (try clear hfz11_0); (try clear hfz11_1); (try clear hfz11_2); (try clear hfz11_3); (try clear hfz11_4); (try clear hfz21_0); (try clear hfz21_1); (try clear hfz21_2); (try clear hfz21_3); (try clear hfz24_0); (try clear hfz24_1); (try clear hfz24_2); (try clear hfz24_3); (try clear hfz26_0); (try clear hfz26_1); (try clear hfz26_2); (try clear hfz26_3); (try clear hfz26_4); (try clear hfz8_0); (try clear hfz8_1); (try clear hfz8_2); (try clear hfz8_3); (try clear hfz8_4); (try clear hx358_0); (try clear hx358_1); (try clear hx358_2); (try clear hx358_3); (try clear hx358_4); (try clear hx361_0); (try clear hx361_1); (try clear hx361_2); (try clear hx361_3); (try clear hx371_0); (try clear hx371_1); (try clear hx371_2); (try clear hx371_3); (try clear hx372_0); (try clear hx372_1); (try clear hx372_2); (try clear hx372_3); (try clear p2); (try clear p3); (try clear p35); (try clear p358); (try clear p36); (try clear p361); (try clear p37); (try clear p371); (try clear p372); (try clear p6); (try clear q3); (try clear q35); (try clear q358); (try clear q36); (try clear q361); (try clear q37); (try clear q371); (try clear q372)
              obtain ⟨x16_4, x138_4, rfl, HA, HK4, HO_3, HO_16, HO_136, BK359, HB⟩ := hrel
              cases gk with
              | zero => exact absurd HA.out (by simp [backseatlaw16_SizeActive.l2])
              | succ k4 =>
               have H := HA.out
               clear HA
               simp only [backseatlaw16_SizeActive.l2] at H
               by_cases c60 : x138_4 < (x4_1.length : Int)
               ·as_aux_lemma =>
                rw [if_pos c60] at H
                have c60b0 : decide (x138_4 < (x4_1.length : Int)) = true := decide_eq_true c60
                clear c60
                by_cases c61 : 0 ≤ x138_4
                ·as_aux_lemma =>
                 rw [if_pos c61] at H
                 have c61b0 : decide (0 ≤ x138_4) = true := decide_eq_true c61
                 clear c61
                 by_cases c62 : x138_4 < (x4_1.length : Int)
                 ·as_aux_lemma =>
                  rw [if_pos c62] at H
                  have c62b0 : decide (x138_4 < (x4_1.length : Int)) = true := decide_eq_true c62
                  clear c62
                  by_cases c63 : ((rd_T48 x4_1 x138_4).f0) = (wrap64 (1 + (Int.tmod (wrap64 ((Int.tmod ((rd_T71 l0 x23_1).f1) 9) + 9)) 9)))
                  ·rw [if_pos c63] at H
                   have c63b0 : (((rd_T48 x4_1 x138_4).f0) == (wrap64 (1 + (Int.tmod (wrap64 ((Int.tmod ((rd_T71 l0 x23_1).f1) 9) + 9)) 9)))) = true := beq_iff_eq.mpr c63
                   have c63b1 : (((rd_T48 x4_1 x138_4).f0) != (wrap64 (1 + (Int.tmod (wrap64 ((Int.tmod ((rd_T71 l0 x23_1).f1) 9) + 9)) 9)))) = false := bne_eq_false_iff_eq.mpr c63
                   clear c63
                   have H' := Aside0.mk H
                   clear H
                   have p377 : 0 ≤ (x138_4 : Int) := of_decide_eq_true (by first | (with_reducible assumption) | assumption)
                   have q377 : x138_4 < (x4_1.length : Int) := of_decide_eq_true (by first | (with_reducible assumption) | assumption)
                   obtain ⟨ad377, e377, hx377_0, hx377_1, hx377_2, hx377_3⟩ := at_T48 (Kd.R_reads' HO_136.out).2.2 x138_4 p377 q377
                   cases e377
                   replace p377 := eq_true p377
                   replace q377 := eq_true q377
                   go_wp2_with (first | ((with_reducible refine gate_dst (N := 18) rfl ?_); (try (refine gate_guard (by rfl) ?_; dsimp only)); refine box_event ?hg (N := 18) ?hd (cs := #[.int .i64 0, .int .i64 0, .int .i64 0, .int .i64 0]) (t := 48) ?hr ?_; (case hd => rfl); (case hg => rfl); (case hr => first | (go_simp; done) | (go_simp; rfl)); intro gb378 hg w64 hbox hb; have BK378 := Aside0.mk (hbox); have GW378 := Aside0.mk ((by rw [hg]; exact (below_size (by repeat first | refine below_set ?_ GE359.out | exact HB.out | apply below_alloc | apply pw_below_drewN | apply below_drew1)) : w.heap.size ≤ gb378)); have GE378 := GW378; have NB359_378 := Aside0.mk ((by rw [hg]; exact lt1 BK359.out : gb359 ≠ gb378)); have NB378_359 := Aside0.mk ((by rw [hg]; exact gt1 BK359.out : gb378 ≠ gb359)); replace HO_3 := Aside0.mk (Kd.R_below (Kd.R_elderB (by (with_reducible repeat (first | apply Kd.R_alloc | apply Kd.R_drewN | apply Kd.R_drew)); exact HO_3.out) gb378 (Nat.le_of_eq hg.symm)) hb); replace HO_16 := Aside0.mk (Kd.R_below (Kd.R_elderB (by (with_reducible repeat (first | apply Kd.R_alloc | apply Kd.R_drewN | apply Kd.R_drew)); exact HO_16.out) gb378 (Nat.le_of_eq hg.symm)) hb); replace HO_136 := Aside0.mk (Kd.R_below (Kd.R_elderB (by (with_reducible repeat (first | apply Kd.R_alloc | apply Kd.R_drewN | apply Kd.R_drew)); exact HO_136.out) gb378 (Nat.le_of_eq hg.symm)) hb); replace BK359 := Aside0.mk (bb hb BK359.out); replace HB := Aside0.mk (below_step (by repeat first | refine below_set ?_ GE359.out | exact HB.out | apply below_alloc | apply pw_below_drewN | apply below_drew1) hb); clear hb hbox hg; have hnb65 := NB378_359.out; have hnc65 := NB359_378.out; obtain ⟨hcz66_0, hcz66_1, hcz66_2, hcz66_3, hfz66_0, hfz66_1, hfz66_2, hfz66_3⟩ := cz4 BK378.out))
                   go_roundg k4
                   case measure => have := HK1.out; have := HK2.out; have := HJ24.out; have := HK4.out; omega
                   case rel => exact ⟨(x16_4), (wrap64 (x138_4 + 1)), (by first | rfl | (simp; done) | (simp [*]; done)), H', ⟨by have := HK1.out; have := HK2.out; have := HJ24.out; have := HK4.out; omega⟩, ⟨by (with_reducible repeat (first | apply Kd.R_alloc | apply Kd.R_drewN | apply Kd.R_drew)); exact Kd.R_mono (Kd.R_far (p := ⟨gb378, 3, none⟩) (Kd.R_far (p := ⟨gb378, 2, none⟩) (Kd.R_far (p := ⟨gb378, 1, none⟩) (Kd.R_far (p := ⟨gb378, 0, none⟩) (Kd.R_mono HO_3.out (fun k_ hk => (⟨hk, hk.2⟩ : _ ∧ k_ ≠ gb378))) (fun _ hk => hk.2) (.int .i64 ((rd_T48 x4_1 x138_4).f0))) (fun _ hk => hk.2) (.int .i64 ((rd_T48 x4_1 x138_4).f1))) (fun _ hk => hk.2) (.int .i64 ((rd_T48 x4_1 x138_4).f2))) (fun _ hk => hk.2) (.int .i64 ((rd_T48 x4_1 x138_4).f3))) (fun _ hk => ⟨hk.1.1.1, hk.1.1.2⟩)⟩, ⟨by (with_reducible repeat (first | apply Kd.R_alloc | apply Kd.R_drewN | apply Kd.R_drew)); exact Kd.R_mono (Kd.R_far (p := ⟨gb378, 3, none⟩) (Kd.R_far (p := ⟨gb378, 2, none⟩) (Kd.R_far (p := ⟨gb378, 1, none⟩) (Kd.R_far (p := ⟨gb378, 0, none⟩) (Kd.R_mono HO_16.out (fun k_ hk => (⟨hk, hk.2⟩ : _ ∧ k_ ≠ gb378))) (fun _ hk => hk.2) (.int .i64 ((rd_T48 x4_1 x138_4).f0))) (fun _ hk => hk.2) (.int .i64 ((rd_T48 x4_1 x138_4).f1))) (fun _ hk => hk.2) (.int .i64 ((rd_T48 x4_1 x138_4).f2))) (fun _ hk => hk.2) (.int .i64 ((rd_T48 x4_1 x138_4).f3))) (fun _ hk => ⟨hk.1.1.1, hk.1.1.2⟩)⟩, ⟨by (with_reducible repeat (first | apply Kd.R_alloc | apply Kd.R_drewN | apply Kd.R_drew)); exact Kd.R_mono (Kd.R_far (p := ⟨gb378, 3, none⟩) (Kd.R_far (p := ⟨gb378, 2, none⟩) (Kd.R_far (p := ⟨gb378, 1, none⟩) (Kd.R_far (p := ⟨gb378, 0, none⟩) (Kd.R_mono HO_136.out (fun k_ hk => (⟨hk, hk.2⟩ : _ ∧ k_ ≠ gb378))) (fun _ hk => hk.2) (.int .i64 ((rd_T48 x4_1 x138_4).f0))) (fun _ hk => hk.2) (.int .i64 ((rd_T48 x4_1 x138_4).f1))) (fun _ hk => hk.2) (.int .i64 ((rd_T48 x4_1 x138_4).f2))) (fun _ hk => hk.2) (.int .i64 ((rd_T48 x4_1 x138_4).f3))) (fun _ hk => ⟨hk.1.1.1, hk.1.1.2⟩)⟩, ⟨by exact (far4 NB359_378.out BK359.out)⟩, ⟨by repeat first | refine below_set ?_ GE359.out | refine below_set ?_ GE378.out | exact HB.out | apply below_alloc | apply pw_below_drewN | apply below_drew1⟩⟩
                  ·as_aux_lemma =>
                   rw [if_neg c63] at H
                   have c63b0 : (((rd_T48 x4_1 x138_4).f0) == (wrap64 (1 + (Int.tmod (wrap64 ((Int.tmod ((rd_T71 l0 x23_1).f1) 9) + 9)) 9)))) = false := beq_eq_false_iff_ne.mpr c63
                   have c63b1 : (((rd_T48 x4_1 x138_4).f0) != (wrap64 (1 + (Int.tmod (wrap64 ((Int.tmod ((rd_T71 l0 x23_1).f1) 9) + 9)) 9)))) = true := bne_iff_ne.mpr c63
                   by_cases c67 : x16_4.length < 4398046511104
                   ·rw [if_pos c67] at H
                    have LMc67 := Aside0.mk c67
                    clear c67
                    obtain ⟨y379, hy379⟩ : ∃ y_ : List (S48), y_ = (x16_4 ++ [(⟨(rd_T48 x4_1 x138_4).f0, (rd_T48 x4_1 x138_4).f1, (rd_T48 x4_1 x138_4).f2, (rd_T48 x4_1 x138_4).f3⟩ : S48)]) := ⟨_, rfl⟩
                    replace H : (backseatlaw16_SizeActive.l2 k4 x11_24 (wrap64 (x5_1 + (wrap64 (1 + (Int.tmod (wrap64 ((Int.tmod ((rd_T71 l0 x23_1).f4) 9) + 9)) 9))))) (wrap64 (1 + (Int.tmod (wrap64 ((Int.tmod ((rd_T71 l0 x23_1).f1) 9) + 9)) 9))) x9_24 x10_24 y379 l0 (l0.length : Int) x23_1 x4_1 (x4_1.length : Int) (wrap64 (x138_4 + 1)) ((rd_T71 l0 x23_1).f0) ((rd_T71 l0 x23_1).f1) ((rd_T71 l0 x23_1).f2) ((rd_T71 l0 x23_1).f3) ((rd_T71 l0 x23_1).f4)) = some r := by first | (rw [hy379]; with_reducible exact H) | (have H2_ := (Option.bind_some _ _).symm.trans H; rw [hy379]; with_reducible exact H2_) | (have H2_ := (Option.bind_some _ _).symm.trans H; with_reducible exact H2_) | with_reducible exact H | (rw [hy379]; exact H) | exact H
                    have Ny379 := Aside0.mk hy379
                    clear hy379
                    have H' := Aside0.mk H
                    clear H
                    have p377 : 0 ≤ (x138_4 : Int) := of_decide_eq_true (by first | (with_reducible assumption) | assumption)
                    have q377 : x138_4 < (x4_1.length : Int) := of_decide_eq_true (by first | (with_reducible assumption) | assumption)
                    obtain ⟨ad377, e377, hx377_0, hx377_1, hx377_2, hx377_3⟩ := at_T48 (Kd.R_reads' HO_136.out).2.2 x138_4 p377 q377
                    cases e377
                    replace p377 := eq_true p377
                    replace q377 := eq_true q377
                    go_wp2_with (first | ((with_reducible refine gate_dst (N := 18) rfl ?_); (try (refine gate_guard (by rfl) ?_; dsimp only)); refine box_event ?hg (N := 18) ?hd (cs := #[.int .i64 0, .int .i64 0, .int .i64 0, .int .i64 0]) (t := 48) ?hr ?_; (case hd => rfl); (case hg => rfl); (case hr => first | (go_simp; done) | (go_simp; rfl)); intro gb378 hg w68 hbox hb; have BK378 := Aside0.mk (hbox); have GW378 := Aside0.mk ((by rw [hg]; exact (below_size (by repeat first | refine below_set ?_ GE359.out | exact HB.out | apply below_alloc | apply pw_below_drewN | apply below_drew1)) : w.heap.size ≤ gb378)); have GE378 := GW378; have NB359_378 := Aside0.mk ((by rw [hg]; exact lt1 BK359.out : gb359 ≠ gb378)); have NB378_359 := Aside0.mk ((by rw [hg]; exact gt1 BK359.out : gb378 ≠ gb359)); replace HO_3 := Aside0.mk (Kd.R_below (Kd.R_elderB (by (with_reducible repeat (first | apply Kd.R_alloc | apply Kd.R_drewN | apply Kd.R_drew)); exact HO_3.out) gb378 (Nat.le_of_eq hg.symm)) hb); replace HO_16 := Aside0.mk (Kd.R_below (Kd.R_elderB (by (with_reducible repeat (first | apply Kd.R_alloc | apply Kd.R_drewN | apply Kd.R_drew)); exact HO_16.out) gb378 (Nat.le_of_eq hg.symm)) hb); replace HO_136 := Aside0.mk (Kd.R_below (Kd.R_elderB (by (with_reducible repeat (first | apply Kd.R_alloc | apply Kd.R_drewN | apply Kd.R_drew)); exact HO_136.out) gb378 (Nat.le_of_eq hg.symm)) hb); replace BK359 := Aside0.mk (bb hb BK359.out); replace HB := Aside0.mk (below_step (by repeat first | refine below_set ?_ GE359.out | exact HB.out | apply below_alloc | apply pw_below_drewN | apply below_drew1) hb); clear hb hbox hg; have hnb69 := NB378_359.out; have hnc69 := NB359_378.out; obtain ⟨hcz70_0, hcz70_1, hcz70_2, hcz70_3, hfz70_0, hfz70_1, hfz70_2, hfz70_3⟩ := cz4 BK378.out) | ((with_reducible refine gate_builtin (b := .append) (xs := #[.tmp 146, .tmp 148]) rfl ?_); (try (refine gate_guard (by rfl) ?_; dsimp only)); at_builtin; refine Kd.R_append k48 (w0 := w) w.heap.size rfl (.tmp 146) (.tmp 148) 45 48 (.agg #[(.int .i64 0), (.int .i64 0), (.int .i64 0), (.int .i64 0)]) 32 rfl Try.underlying45 info48 rfl (by decide) (by omega) u16 x16_4 (⟨(rd_T48 x4_1 x138_4).f0, (rd_T48 x4_1 x138_4).f1, (rd_T48 x4_1 x138_4).f2, (rd_T48 x4_1 x138_4).f3⟩ : S48) [.int .i64 ((rd_T48 x4_1 x138_4).f0), .int .i64 ((rd_T48 x4_1 x138_4).f1), .int .i64 ((rd_T48 x4_1 x138_4).f2), .int .i64 ((rd_T48 x4_1 x138_4).f3)] (fun k_ => some k_ ≠ (u11 : Value).ownBlock ∧ some k_ ≠ (.slice (some ad377) x4_1.length co14 : Value).ownBlock ∧ k_ ≠ gb378) (fun _ => False) rfl (by first | (go_simp; done) | (go_simp; rfl)) ?aP (fun _ hk => hk.elim) ?aF ?aO ?aB ?aS ?aL ?_; (case aP => exact k48_mkM _ _ _ (⟨(rd_T48 x4_1 x138_4).f0, (rd_T48 x4_1 x138_4).f1, (rd_T48 x4_1 x138_4).f2, (rd_T48 x4_1 x138_4).f3⟩ : S48)); (case aB => exact (by repeat first | refine below_set ?_ GE359.out | refine below_set ?_ GE378.out | exact HB.out | apply below_alloc | apply pw_below_drewN | apply below_drew1)); (case aF => exact (fun k_ hk => ⟨Kd.fresh' (Kd.R_lt (by (with_reducible repeat (first | apply Kd.R_alloc | apply Kd.R_drewN | apply Kd.R_drew)); exact (Kd.R_mono (Kd.R_far (p := ⟨gb378, 3, none⟩) (Kd.R_far (p := ⟨gb378, 2, none⟩) (Kd.R_far (p := ⟨gb378, 1, none⟩) (Kd.R_far (p := ⟨gb378, 0, none⟩) (Kd.R_mono HO_3.out (fun k_ hk => (⟨hk, hk.2⟩ : _ ∧ k_ ≠ gb378))) (fun _ hk => hk.2) (.int .i64 ((rd_T48 x4_1 x138_4).f0))) (fun _ hk => hk.2) (.int .i64 ((rd_T48 x4_1 x138_4).f1))) (fun _ hk => hk.2) (.int .i64 ((rd_T48 x4_1 x138_4).f2))) (fun _ hk => hk.2) (.int .i64 ((rd_T48 x4_1 x138_4).f3))) (fun _ h_ => h_.1)))) k_ hk, Kd.fresh' (Kd.R_lt (by (with_reducible repeat (first | apply Kd.R_alloc | apply Kd.R_drewN | apply Kd.R_drew)); exact (Kd.R_mono (Kd.R_far (p := ⟨gb378, 3, none⟩) (Kd.R_far (p := ⟨gb378, 2, none⟩) (Kd.R_far (p := ⟨gb378, 1, none⟩) (Kd.R_far (p := ⟨gb378, 0, none⟩) (Kd.R_mono HO_136.out (fun k_ hk => (⟨hk, hk.2⟩ : _ ∧ k_ ≠ gb378))) (fun _ hk => hk.2) (.int .i64 ((rd_T48 x4_1 x138_4).f0))) (fun _ hk => hk.2) (.int .i64 ((rd_T48 x4_1 x138_4).f1))) (fun _ hk => hk.2) (.int .i64 ((rd_T48 x4_1 x138_4).f2))) (fun _ hk => hk.2) (.int .i64 ((rd_T48 x4_1 x138_4).f3))) (fun _ h_ => h_.1)))) k_ hk, Kd.freshB (g := gb378) (o := .cells #[.int .i64 ((rd_T48 x4_1 x138_4).f0), .int .i64 ((rd_T48 x4_1 x138_4).f1), .int .i64 ((rd_T48 x4_1 x138_4).f2), .int .i64 ((rd_T48 x4_1 x138_4).f3)] 48 (0, 0)) (by exact (put4 BK378.out)) k_ hk⟩)); (case aO => exact (by (with_reducible repeat (first | apply Kd.R_alloc | apply Kd.R_drewN | apply Kd.R_drew)); exact Kd.R_mono (Kd.R_far (p := ⟨gb378, 3, none⟩) (Kd.R_far (p := ⟨gb378, 2, none⟩) (Kd.R_far (p := ⟨gb378, 1, none⟩) (Kd.R_far (p := ⟨gb378, 0, none⟩) (Kd.R_mono HO_16.out (fun k_ hk => (⟨hk, hk.2⟩ : _ ∧ k_ ≠ gb378))) (fun _ hk => hk.2) (.int .i64 ((rd_T48 x4_1 x138_4).f0))) (fun _ hk => hk.2) (.int .i64 ((rd_T48 x4_1 x138_4).f1))) (fun _ hk => hk.2) (.int .i64 ((rd_T48 x4_1 x138_4).f2))) (fun _ hk => hk.2) (.int .i64 ((rd_T48 x4_1 x138_4).f3))) (fun _ hk => ⟨hk.1.1.1, ⟨hk.1.1.2, hk.1.2⟩⟩))); (case aS => exact (below_size (by repeat first | refine below_set ?_ GE359.out | refine below_set ?_ GE378.out | exact HB.out | apply below_alloc | apply pw_below_drewN | apply below_drew1))); (case aL => have := LMc67.out; omega); intro v380 w71 ho hb hg hat; rw [← Ny379.out] at ho; have n0_ := Aside0.mk (Kd.R_after (ok := (fun k_ => some k_ ≠ (.slice (some ad377) x4_1.length co14 : Value).ownBlock ∧ k_ ≠ gb378)) (by (with_reducible repeat (first | apply Kd.R_alloc | apply Kd.R_drewN | apply Kd.R_drew)); exact Kd.R_mono (Kd.R_far (p := ⟨gb378, 3, none⟩) (Kd.R_far (p := ⟨gb378, 2, none⟩) (Kd.R_far (p := ⟨gb378, 1, none⟩) (Kd.R_far (p := ⟨gb378, 0, none⟩) (Kd.R_mono HO_3.out (fun k_ hk => (⟨hk, hk.2⟩ : _ ∧ k_ ≠ gb378))) (fun _ hk => hk.2) (.int .i64 ((rd_T48 x4_1 x138_4).f0))) (fun _ hk => hk.2) (.int .i64 ((rd_T48 x4_1 x138_4).f1))) (fun _ hk => hk.2) (.int .i64 ((rd_T48 x4_1 x138_4).f2))) (fun _ hk => hk.2) (.int .i64 ((rd_T48 x4_1 x138_4).f3))) (fun _ hk => ⟨⟨hk.1.1.2, hk.1.2⟩, hk.1.1.1⟩)) hg hat); have n1_ := Aside0.mk (Kd.R_after (ok := (fun k_ => some k_ ≠ (u11 : Value).ownBlock ∧ k_ ≠ gb378)) (by (with_reducible repeat (first | apply Kd.R_alloc | apply Kd.R_drewN | apply Kd.R_drew)); exact Kd.R_mono (Kd.R_far (p := ⟨gb378, 3, none⟩) (Kd.R_far (p := ⟨gb378, 2, none⟩) (Kd.R_far (p := ⟨gb378, 1, none⟩) (Kd.R_far (p := ⟨gb378, 0, none⟩) (Kd.R_mono HO_136.out (fun k_ hk => (⟨hk, hk.2⟩ : _ ∧ k_ ≠ gb378))) (fun _ hk => hk.2) (.int .i64 ((rd_T48 x4_1 x138_4).f0))) (fun _ hk => hk.2) (.int .i64 ((rd_T48 x4_1 x138_4).f1))) (fun _ hk => hk.2) (.int .i64 ((rd_T48 x4_1 x138_4).f2))) (fun _ hk => hk.2) (.int .i64 ((rd_T48 x4_1 x138_4).f3))) (fun _ hk => ⟨⟨hk.1.1.1, hk.1.2⟩, hk.1.1.2⟩)) hg hat); have n2_ := Aside0.mk (blk_grown (g := gb359) (o := .cells #[.int .i64 ((rd_T71 l0 x23_1).f0), .int .i64 ((rd_T71 l0 x23_1).f1), .int .i64 ((rd_T71 l0 x23_1).f2), .int .i64 ((rd_T71 l0 x23_1).f3), .int .i64 ((rd_T71 l0 x23_1).f4)] 71 (0, 0)) (by exact (far4 NB359_378.out BK359.out)) hg (Kd.R_ne HO_16.out BK359.out (by decide))); have n3_ := Aside0.mk (blk_grown (g := gb378) (o := .cells #[.int .i64 ((rd_T48 x4_1 x138_4).f0), .int .i64 ((rd_T48 x4_1 x138_4).f1), .int .i64 ((rd_T48 x4_1 x138_4).f2), .int .i64 ((rd_T48 x4_1 x138_4).f3)] 48 (0, 0)) (by exact (put4 BK378.out)) hg (Kd.R_away HO_16.out (fun _ hk => hk.2))); have n4_ := Aside0.mk (hb); have n5_ := Aside0.mk (ho); clear HO_3; clear HO_136; clear BK359; clear BK378; clear HB; clear HO_16; have HO_3 := n0_; have HO_136 := n1_; have BK359 := n2_; have BK378 := n3_; have HB := n4_; have HO381 := n5_; clear n0_ n1_ n2_ n3_ n4_ n5_; clear ho hb hg hat))
                    go_roundg k4
                    case measure => have := HK1.out; have := HK2.out; have := HJ24.out; have := HK4.out; omega
                    case rel => exact ⟨(y379), (wrap64 (x138_4 + 1)), (by first | rfl | (simp; done) | (simp [*]; done)), H', ⟨by have := HK1.out; have := HK2.out; have := HJ24.out; have := HK4.out; omega⟩, ⟨by (with_reducible repeat (first | apply Kd.R_alloc | apply Kd.R_drewN | apply Kd.R_drew)); exact Kd.R_mono HO_3.out (fun _ hk => ⟨hk.2, hk.1.1⟩)⟩, ⟨by (with_reducible repeat (first | apply Kd.R_alloc | apply Kd.R_drewN | apply Kd.R_drew)); exact Kd.R_mono HO381.out (fun _ hk => ⟨hk.1, hk.2.1⟩)⟩, ⟨by (with_reducible repeat (first | apply Kd.R_alloc | apply Kd.R_drewN | apply Kd.R_drew)); exact Kd.R_mono HO_136.out (fun _ hk => ⟨hk.1.1, hk.2⟩)⟩, ⟨by (with_reducible repeat (first | refine blk_drewN ?_ _ | refine blk_drew ?_ | refine blk_alloc ?_ _)); exact BK359.out⟩, ⟨by repeat first | refine below_set ?_ GE359.out | refine below_set ?_ GE378.out | exact HB.out | apply below_alloc | apply pw_below_drewN | apply below_drew1⟩⟩
                   ·rw [if_neg c67] at H
                    exact absurd H (by simp)
                 ·rw [if_neg c62] at H
                  exact absurd H (by simp)
                ·rw [if_neg c61] at H
                 exact absurd H (by simp)
               ·as_aux_lemma =>
                rw [if_neg c60] at H
                have c60b0 : decide (x138_4 < (x4_1.length : Int)) = false := decide_eq_false c60
                clear c60
                have HC72 := Aside0.mk H
                clear H
                have hcz73_0 : wr.cell? ⟨gb359, 0, none⟩ = some (.int .i64 ((rd_T71 l0 x23_1).f0)) := (blk_cell BK359.out 0).trans rfl
                have hcz73_1 : wr.cell? ⟨gb359, 1, none⟩ = some (.int .i64 ((rd_T71 l0 x23_1).f1)) := (blk_cell BK359.out 1).trans rfl
                have hcz73_2 : wr.cell? ⟨gb359, 2, none⟩ = some (.int .i64 ((rd_T71 l0 x23_1).f2)) := (blk_cell BK359.out 2).trans rfl
                have hcz73_3 : wr.cell? ⟨gb359, 3, none⟩ = some (.int .i64 ((rd_T71 l0 x23_1).f3)) := (blk_cell BK359.out 3).trans rfl
                have hcz73_4 : wr.cell? ⟨gb359, 4, none⟩ = some (.int .i64 ((rd_T71 l0 x23_1).f4)) := (blk_cell BK359.out 4).trans rfl
                have hfz73_0 := blk_frozen BK359.out 0
                have hfz73_1 := blk_frozen BK359.out 1
                have hfz73_2 := blk_frozen BK359.out 2
                have hfz73_3 := blk_frozen BK359.out 3
                have hfz73_4 := blk_frozen BK359.out 4
                go_upto_if 156 with (fail)
                go_cut [16] (fun v16 wc => ∃ (kq : Nat) (x16_71 : List (S48)), Aside0 (backseatlaw16_SizeActive.j4 kq x11_24 (wrap64 (x5_1 + (wrap64 (1 + (Int.tmod (wrap64 ((Int.tmod ((rd_T71 l0 x23_1).f4) 9) + 9)) 9))))) x16_71 l0 (l0.length : Int) x23_1 = some r) ∧ Aside0 (kq ≤ k4) ∧ Aside0 (Kd.R k48 48 wc w.heap.size (fun k_ => some k_ ≠ (v16 : Value).ownBlock) u11 x11_24) ∧ Aside0 (Kd.R k48 48 wc w.heap.size (fun k_ => some k_ ≠ (u11 : Value).ownBlock) v16 x16_71) ∧ Aside0 (wc.heap[gb359]? = some (.cells #[.int .i64 ((rd_T71 l0 x23_1).f0), .int .i64 ((rd_T71 l0 x23_1).f1), .int .i64 ((rd_T71 l0 x23_1).f2), .int .i64 ((rd_T71 l0 x23_1).f3), .int .i64 ((rd_T71 l0 x23_1).f4)] 71 (0, 0))) ∧ Aside0 (Below w.heap.size w wc))
                case first =>
                 have H := HC72.out
                 clear HC72
                 by_cases c74 : (Int.tmod (wrap64 ((Int.tmod ((rd_T71 l0 x23_1).f0) 3) + 3)) 3) < 2
                 ·rw [if_pos c74] at H
                  have c74b0 : decide ((Int.tmod (wrap64 ((Int.tmod ((rd_T71 l0 x23_1).f0) 3) + 3)) 3) < 2) = true := decide_eq_true c74
                  clear c74
                  (first | rw [c74b0] | (simp only [i64_w, i32_w]; rw [c74b0]) | skip)
                  by_cases c75 : x16_4.length < 4398046511104
                  ·rw [if_pos c75] at H
                   have LMc75 := Aside0.mk c75
                   clear c75
                   obtain ⟨y382, hy382⟩ : ∃ y_ : List (S48), y_ = (x16_4 ++ [(⟨(wrap64 (1 + (Int.tmod (wrap64 ((Int.tmod ((rd_T71 l0 x23_1).f1) 9) + 9)) 9))), x9_24, x10_24, (wrap64 (x5_1 + (wrap64 (1 + (Int.tmod (wrap64 ((Int.tmod ((rd_T71 l0 x23_1).f4) 9) + 9)) 9)))))⟩ : S48)]) := ⟨_, rfl⟩
                   replace H : (backseatlaw16_SizeActive.j4 k4 x11_24 (wrap64 (x5_1 + (wrap64 (1 + (Int.tmod (wrap64 ((Int.tmod ((rd_T71 l0 x23_1).f4) 9) + 9)) 9))))) y382 l0 (l0.length : Int) x23_1) = some r := by first | (rw [hy382]; with_reducible exact H) | (have H2_ := (Option.bind_some _ _).symm.trans H; rw [hy382]; with_reducible exact H2_) | (have H2_ := (Option.bind_some _ _).symm.trans H; with_reducible exact H2_) | with_reducible exact H | (rw [hy382]; exact H) | exact H
                   have Ny382 := Aside0.mk hy382
                   clear hy382
                   have H' := Aside0.mk H
                   clear H
                   go_wp2_with (first | ((with_reducible refine gate_builtin (b := .append) (xs := #[.tmp 157, .tmp 163]) rfl ?_); (try (refine gate_guard (by rfl) ?_; dsimp only)); at_builtin; refine Kd.R_append k48 (w0 := w) w.heap.size rfl (.tmp 157) (.tmp 163) 45 48 (.agg #[(.int .i64 0), (.int .i64 0), (.int .i64 0), (.int .i64 0)]) 32 rfl Try.underlying45 info48 rfl (by decide) (by omega) u16 x16_4 (⟨(wrap64 (1 + (Int.tmod (wrap64 ((Int.tmod ((rd_T71 l0 x23_1).f1) 9) + 9)) 9))), x9_24, x10_24, (wrap64 (x5_1 + (wrap64 (1 + (Int.tmod (wrap64 ((Int.tmod ((rd_T71 l0 x23_1).f4) 9) + 9)) 9)))))⟩ : S48) [.int .i64 (wrap64 (1 + (Int.tmod (wrap64 ((Int.tmod ((rd_T71 l0 x23_1).f1) 9) + 9)) 9))), .int .i64 x9_24, .int .i64 x10_24, .int .i64 (wrap64 (x5_1 + (wrap64 (1 + (Int.tmod (wrap64 ((Int.tmod ((rd_T71 l0 x23_1).f4) 9) + 9)) 9)))))] (fun k_ => some k_ ≠ (u11 : Value).ownBlock ∧ some k_ ≠ (.slice Ao14 x4_1.length co14 : Value).ownBlock) (fun _ => False) rfl rfl ?aP (fun _ hk => hk.elim) ?aF ?aO ?aB ?aS ?aL ?_; (case aP => exact k48_mkM _ _ _ (⟨(wrap64 (1 + (Int.tmod (wrap64 ((Int.tmod ((rd_T71 l0 x23_1).f1) 9) + 9)) 9))), x9_24, x10_24, (wrap64 (x5_1 + (wrap64 (1 + (Int.tmod (wrap64 ((Int.tmod ((rd_T71 l0 x23_1).f4) 9) + 9)) 9)))))⟩ : S48)); (case aB => exact (by repeat first | refine below_set ?_ GE359.out | exact HB.out | apply below_alloc | apply pw_below_drewN | apply below_drew1)); (case aF => exact (fun k_ hk => ⟨Kd.fresh' (Kd.R_lt (by (with_reducible repeat (first | apply Kd.R_alloc | apply Kd.R_drewN | apply Kd.R_drew)); exact HO_3.out)) k_ hk, Kd.fresh' (Kd.R_lt (by (with_reducible repeat (first | apply Kd.R_alloc | apply Kd.R_drewN | apply Kd.R_drew)); exact HO_136.out)) k_ hk⟩)); (case aO => exact (by (with_reducible repeat (first | apply Kd.R_alloc | apply Kd.R_drewN | apply Kd.R_drew)); exact HO_16.out)); (case aS => exact (below_size (by repeat first | refine below_set ?_ GE359.out | exact HB.out | apply below_alloc | apply pw_below_drewN | apply below_drew1))); (case aL => have := LMc75.out; omega); intro v383 w76 ho hb hg hat; rw [← Ny382.out] at ho; have n0_ := Aside0.mk (Kd.R_after (ok := (fun k_ => some k_ ≠ (.slice Ao14 x4_1.length co14 : Value).ownBlock)) (by (with_reducible repeat (first | apply Kd.R_alloc | apply Kd.R_drewN | apply Kd.R_drew)); exact Kd.R_mono HO_3.out (fun _ hk => ⟨hk.2, hk.1⟩)) hg hat); have n1_ := Aside0.mk (Kd.R_after (ok := (fun k_ => some k_ ≠ (u11 : Value).ownBlock)) (by (with_reducible repeat (first | apply Kd.R_alloc | apply Kd.R_drewN | apply Kd.R_drew)); exact HO_136.out) hg hat); have n2_ := Aside0.mk (blk_grown (g := gb359) (o := .cells #[.int .i64 ((rd_T71 l0 x23_1).f0), .int .i64 ((rd_T71 l0 x23_1).f1), .int .i64 ((rd_T71 l0 x23_1).f2), .int .i64 ((rd_T71 l0 x23_1).f3), .int .i64 ((rd_T71 l0 x23_1).f4)] 71 (0, 0)) (by (with_reducible repeat (first | refine blk_drewN ?_ _ | refine blk_drew ?_ | refine blk_alloc ?_ _)); exact BK359.out) hg (Kd.R_ne HO_16.out BK359.out (by decide))); have n3_ := Aside0.mk (hb); have n4_ := Aside0.mk (ho); clear HO_3; clear HO_136; clear BK359; clear HB; clear HO_16; have HO_3 := n0_; have HO_136 := n1_; have BK359 := n2_; have HB := n3_; have HO384 := n4_; clear n0_ n1_ n2_ n3_ n4_; clear ho hb hg hat))
                   go_meet
                   case rel => exact ⟨_, (y382), H', ⟨by have := HK1.out; have := HK2.out; have := HJ24.out; have := HK4.out; first | omega | exact Nat.le_refl _⟩, ⟨by (with_reducible repeat (first | apply Kd.R_alloc | apply Kd.R_drewN | apply Kd.R_drew)); exact Kd.R_mono HO_3.out (fun _ hk => hk.2)⟩, ⟨by (with_reducible repeat (first | apply Kd.R_alloc | apply Kd.R_drewN | apply Kd.R_drew)); exact Kd.R_mono HO384.out (fun _ hk => hk.1)⟩, ⟨by (with_reducible repeat (first | refine blk_drewN ?_ _ | refine blk_drew ?_ | refine blk_alloc ?_ _)); exact BK359.out⟩, ⟨by repeat first | refine below_set ?_ GE359.out | exact HB.out | apply below_alloc | apply pw_below_drewN | apply below_drew1⟩⟩
                  ·rw [if_neg c75] at H
                   exact absurd H (by simp)
                 ·rw [if_neg c74] at H
                  have c74b0 : decide ((Int.tmod (wrap64 ((Int.tmod ((rd_T71 l0 x23_1).f0) 3) + 3)) 3) < 2) = false := decide_eq_false c74
                  clear c74
                  (first | rw [c74b0] | (simp only [i64_w, i32_w]; rw [c74b0]) | skip)
                  have H' := Aside0.mk H
                  clear H
                  go_wp2
                  go_meet
                  case rel => exact ⟨_, (x16_4), H', ⟨by have := HK1.out; have := HK2.out; have := HJ24.out; have := HK4.out; first | omega | exact Nat.le_refl _⟩, ⟨by (with_reducible repeat (first | apply Kd.R_alloc | apply Kd.R_drewN | apply Kd.R_drew)); exact Kd.R_mono HO_3.out (fun _ hk => hk.1)⟩, ⟨by (with_reducible repeat (first | apply Kd.R_alloc | apply Kd.R_drewN | apply Kd.R_drew)); exact Kd.R_mono HO_16.out (fun _ hk => hk.1)⟩, ⟨by (with_reducible repeat (first | refine blk_drewN ?_ _ | refine blk_drew ?_ | refine blk_alloc ?_ _)); exact BK359.out⟩, ⟨by repeat first | refine below_set ?_ GE359.out | exact HB.out | apply below_alloc | apply pw_below_drewN | apply below_drew1⟩⟩
                case rest =>
                 clear HC72
                 (try clear c1); (try clear c2); (try clear c2b0); (try clear p2); (try clear c3); (try clear c3b0); (try clear p3); (try clear q3); (try clear hx3); (try clear c4); (try clear c4b0); (try clear c5); (try clear c5b0); (try clear c6); (try clear p6); (try clear c7); (try clear c9); (try clear c15); (try clear c15b0); (try clear c16); (try clear c16b0); (try clear c17); (try clear c17b0); (try clear c18); (try clear c18b0); (try clear c18b1); (try clear c20); (try clear c23); (try clear c27); (try clear c27b0); (try clear c27b1); (try clear c29); (try clear c29b0); (try clear c29b1); (try clear c30); (try clear c31); (try clear c32); (try clear c32b0); (try clear c35); (try clear c35b0); (try clear c35b1); (try clear p35); (try clear q35); (try clear hx35); (try clear p36); (try clear q36); (try clear hx36); (try clear p37); (try clear q37); (try clear hx37); (try clear c40); (try clear c40b0); (try clear c40b1); (try clear c42); (try clear c42b0); (try clear c42b1); (try clear c42b2); (try clear c45); (try clear c45b0); (try clear c46); (try clear c46b0); (try clear c47); (try clear c47b0); (try clear c54); (try clear c54b0); (try clear c54b1); (try clear c54b2); (try clear c59); (try clear c59b0); (try clear c59b1); (try clear c60); (try clear c60b0); (try clear c61); (try clear c61b0); (try clear c62); (try clear c62b0); (try clear c63); (try clear c63b0); (try clear c63b1); (try clear p64); (try clear c65); (try clear c67); (try clear c69); (try clear c74); (try clear c74b0); (try clear c75); (try clear hcz11_0); (try clear hcz11_1); (try clear hcz11_2); (try clear hcz11_3); (try clear hcz11_4); (try clear hcz21_0); (try clear hcz21_1); (try clear hcz21_2); (try clear hcz21_3); (try clear hcz24_0); (try clear hcz24_1); (try clear hcz24_2); (try clear hcz24_3); (try clear hcz26_0); (try clear hcz26_1); (try clear hcz26_2); (try clear hcz26_3); (try clear hcz26_4); (try clear hcz66_0); (try clear hcz66_1); (try clear hcz66_2); (try clear hcz66_3); (try clear hcz70_0); (try clear hcz70_1); (try clear hcz70_2); (try clear hcz70_3); (try clear hcz73_0); (try clear hcz73_1); (try clear hcz73_2); (try clear hcz73_3); (try clear hcz73_4); (try clear hcz8_0); (try clear hcz8_1); (try clear hcz8_2); (try clear hcz8_3); (try clear hcz8_4); (try clear hfz11_0); (try clear hfz11_1); (try clear hfz11_2); (try clear hfz11_3); (try clear hfz11_4); (try clear hfz21_0); (try clear hfz21_1); (try clear hfz21_2); (try clear hfz21_3); (try clear hfz24_0); (try clear hfz24_1); (try clear hfz24_2); (try clear hfz24_3); (try clear hfz26_0); (try clear hfz26_1); (try clear hfz26_2); (try clear hfz26_3); (try clear hfz26_4); (try clear hfz66_0); (try clear hfz66_1); (try clear hfz66_2); (try clear hfz66_3); (try clear hfz70_0); (try clear hfz70_1); (try clear hfz70_2); (try clear hfz70_3); (try clear hfz73_0); (try clear hfz73_1); (try clear hfz73_2); (try clear hfz73_3); (try clear hfz73_4); (try clear hfz8_0); (try clear hfz8_1); (try clear hfz8_2); (try clear hfz8_3); (try clear hfz8_4); (try clear hx358_0); (try clear hx358_1); (try clear hx358_2); (try clear hx358_3); (try clear hx358_4); (try clear hx361_0); (try clear hx361_1); (try clear hx361_2); (try clear hx361_3); (try clear hx371_0); (try clear hx371_1); (try clear hx371_2); (try clear hx371_3); (try clear hx372_0); (try clear hx372_1); (try clear hx372_2); (try clear hx372_3); (try clear hx377_0); (try clear hx377_1); (try clear hx377_2); (try clear hx377_3); (try clear p2); (try clear p3); (try clear p35); (try clear p358); (try clear p36); (try clear p361); (try clear p37); (try clear p371); (try clear p372); (try clear p377); (try clear p6); (try clear q3); (try clear q35); (try clear q358); (try clear q36); (try clear q361); (try clear q37); (try clear q371); (try clear q372); (try clear q377)
                 obtain ⟨kq, x16_71, HA, HJ71, HO_3, HO_16, BK359, HB⟩ := hcut
                 cases kq with
                 | zero => exact absurd HA.out (by simp [backseatlaw16_SizeActive.j4])
                 | succ kj71 =>
                  have H := HA.out
                  clear HA
                  simp only [backseatlaw16_SizeActive.j4] at H
                  replace H := Option.bind_eq_some_iff.mp H
                  obtain ⟨⟨t385, t386, t387, t388, t389⟩, A770, H⟩ := H
                  replace H : ((size_Right.f kj71 x11_24).bind fun t391 => (if t391 = true then (if (x11_24.length : Int) = (x16_71.length : Int) then (if (x16_71.length : Int) > 0 then (if t389 = 0 then (if 0 ≤ (wrap64 ((x16_71.length : Int) - 1)) then (if (wrap64 ((x16_71.length : Int) - 1)) < (x16_71.length : Int) then (if (!(t385 == ((rd_T48 x16_71 (wrap64 ((x16_71.length : Int) - 1))).f0)) || (!(t386 == ((rd_T48 x16_71 (wrap64 ((x16_71.length : Int) - 1))).f1)) || (!(t387 == ((rd_T48 x16_71 (wrap64 ((x16_71.length : Int) - 1))).f2)) || (!(t388 == ((rd_T48 x16_71 (wrap64 ((x16_71.length : Int) - 1))).f3)))))) = true then (some false) else (backseatlaw16_SizeActive.l0 kj71 x11_24 x16_71 (wrap64 (x5_1 + (wrap64 (1 + (Int.tmod (wrap64 ((Int.tmod ((rd_T71 l0 x23_1).f4) 9) + 9)) 9))))) l0 (l0.length : Int) (wrap64 (x23_1 + 1)))) else (none)) else (none)) else (some false)) else (backseatlaw16_SizeActive.l0 kj71 x11_24 x16_71 (wrap64 (x5_1 + (wrap64 (1 + (Int.tmod (wrap64 ((Int.tmod ((rd_T71 l0 x23_1).f4) 9) + 9)) 9))))) l0 (l0.length : Int) (wrap64 (x23_1 + 1)))) else (some false)) else (some false))) = some r := H
                  have A77 := Aside0.mk A770
                  clear A770
                  replace H := Option.bind_eq_some_iff.mp H
                  obtain ⟨t391, A780, H⟩ := H
                  replace H : (if t391 = true then (if (x11_24.length : Int) = (x16_71.length : Int) then (if (x16_71.length : Int) > 0 then (if t389 = 0 then (if 0 ≤ (wrap64 ((x16_71.length : Int) - 1)) then (if (wrap64 ((x16_71.length : Int) - 1)) < (x16_71.length : Int) then (if (!(t385 == ((rd_T48 x16_71 (wrap64 ((x16_71.length : Int) - 1))).f0)) || (!(t386 == ((rd_T48 x16_71 (wrap64 ((x16_71.length : Int) - 1))).f1)) || (!(t387 == ((rd_T48 x16_71 (wrap64 ((x16_71.length : Int) - 1))).f2)) || (!(t388 == ((rd_T48 x16_71 (wrap64 ((x16_71.length : Int) - 1))).f3)))))) = true then (some false) else (backseatlaw16_SizeActive.l0 kj71 x11_24 x16_71 (wrap64 (x5_1 + (wrap64 (1 + (Int.tmod (wrap64 ((Int.tmod ((rd_T71 l0 x23_1).f4) 9) + 9)) 9))))) l0 (l0.length : Int) (wrap64 (x23_1 + 1)))) else (none)) else (none)) else (some false)) else (backseatlaw16_SizeActive.l0 kj71 x11_24 x16_71 (wrap64 (x5_1 + (wrap64 (1 + (Int.tmod (wrap64 ((Int.tmod ((rd_T71 l0 x23_1).f4) 9) + 9)) 9))))) l0 (l0.length : Int) (wrap64 (x23_1 + 1)))) else (some false)) else (some false)) = some r := H
                  have A78 := Aside0.mk A780
                  clear A780
                  by_cases c79 : t391 = true
                  ·subst c79
                   have H1 : (if (x11_24.length : Int) = (x16_71.length : Int) then (if (x16_71.length : Int) > 0 then (if t389 = 0 then (if 0 ≤ (wrap64 ((x16_71.length : Int) - 1)) then (if (wrap64 ((x16_71.length : Int) - 1)) < (x16_71.length : Int) then (if (!(t385 == ((rd_T48 x16_71 (wrap64 ((x16_71.length : Int) - 1))).f0)) || (!(t386 == ((rd_T48 x16_71 (wrap64 ((x16_71.length : Int) - 1))).f1)) || (!(t387 == ((rd_T48 x16_71 (wrap64 ((x16_71.length : Int) - 1))).f2)) || (!(t388 == ((rd_T48 x16_71 (wrap64 ((x16_71.length : Int) - 1))).f3)))))) = true then (some false) else (backseatlaw16_SizeActive.l0 kj71 x11_24 x16_71 (wrap64 (x5_1 + (wrap64 (1 + (Int.tmod (wrap64 ((Int.tmod ((rd_T71 l0 x23_1).f4) 9) + 9)) 9))))) l0 (l0.length : Int) (wrap64 (x23_1 + 1)))) else (none)) else (none)) else (some false)) else (backseatlaw16_SizeActive.l0 kj71 x11_24 x16_71 (wrap64 (x5_1 + (wrap64 (1 + (Int.tmod (wrap64 ((Int.tmod ((rd_T71 l0 x23_1).f4) 9) + 9)) 9))))) l0 (l0.length : Int) (wrap64 (x23_1 + 1)))) else (some false)) = some r := by rw [if_pos rfl] at H; exact H
                   clear H
                   have H := H1
                   clear H1
                   by_cases c80 : (x11_24.length : Int) = (x16_71.length : Int)
                   ·as_aux_lemma =>
                    rw [if_pos c80] at H
                    have c80b0 : ((x11_24.length : Int) == (x16_71.length : Int)) = true := beq_iff_eq.mpr c80
                    have c80b1 : ((x11_24.length : Int) != (x16_71.length : Int)) = false := bne_eq_false_iff_eq.mpr c80
                    have c80b2 : (x11_24.length == x16_71.length) = true := by first | simpa using c80 | (simp at c80 ⊢; omega)
                    clear c80
                    by_cases c81 : (x16_71.length : Int) > 0
                    ·as_aux_lemma =>
                     rw [if_pos c81] at H
                     have c81b0 : decide (0 < (x16_71.length : Int)) = true := decide_eq_true c81
                     have c81b1 : decide (0 < x16_71.length) = true := decide_eq_true (by omega)
                     clear c81
                     by_cases c82 : t389 = 0
                     ·as_aux_lemma =>
                      rw [if_pos c82] at H
                      have c82b0 : (t389 == 0) = true := beq_iff_eq.mpr c82
                      have c82b1 : (t389 != 0) = false := bne_eq_false_iff_eq.mpr c82
                      clear c82
                      obtain ⟨ji83, hji83⟩ : ∃ j_ : Int, (wrap64 ((x16_71.length : Int) - 1)) = j_ := ⟨_, rfl⟩
                      replace H : (if 0 ≤ (ji83) then (if (ji83) < (x16_71.length : Int) then (if (!(t385 == ((rd_T48 x16_71 (ji83)).f0)) || (!(t386 == ((rd_T48 x16_71 (ji83)).f1)) || (!(t387 == ((rd_T48 x16_71 (ji83)).f2)) || (!(t388 == ((rd_T48 x16_71 (ji83)).f3)))))) = true then (some false) else (backseatlaw16_SizeActive.l0 kj71 x11_24 x16_71 (wrap64 (x5_1 + (wrap64 (1 + (Int.tmod (wrap64 ((Int.tmod ((rd_T71 l0 x23_1).f4) 9) + 9)) 9))))) l0 (l0.length : Int) (wrap64 (x23_1 + 1)))) else (none)) else (none)) = some r := by first | (rw [hji83] at H; exact H) | (simp only [hji83] at H ⊢; exact H)
                      (try rw [hji83] at A77)
                      (try rw [hji83] at A78)
                      have hji83w : (IntKind.i64.wrap ((x16_71.length : Int) - 1)) = ji83 := (i64_w _).trans hji83
                      by_cases c84 : 0 ≤ (ji83)
                      ·as_aux_lemma =>
                       rw [if_pos c84] at H
                       have c84b0 : decide (0 ≤ (ji83)) = true := decide_eq_true c84
                       clear c84
                       by_cases c85 : (ji83) < (x16_71.length : Int)
                       ·as_aux_lemma =>
                        rw [if_pos c85] at H
                        have c85b0 : decide ((ji83) < (x16_71.length : Int)) = true := decide_eq_true c85
                        clear c85
                        by_cases c86 : (!(t385 == ((rd_T48 x16_71 (ji83)).f0)) || (!(t386 == ((rd_T48 x16_71 (ji83)).f1)) || (!(t387 == ((rd_T48 x16_71 (ji83)).f2)) || (!(t388 == ((rd_T48 x16_71 (ji83)).f3)))))) = true
                        ·as_aux_lemma =>
                         rw [if_pos c86] at H
                         have c86b0 : (!(t385 == ((rd_T48 x16_71 (ji83)).f0)) || (!(t386 == ((rd_T48 x16_71 (ji83)).f1)) || (!(t387 == ((rd_T48 x16_71 (ji83)).f2)) || (!(t388 == ((rd_T48 x16_71 (ji83)).f3)))))) = true := c86
                         clear c86
                         obtain rfl := Option.some.inj H
                         obtain ⟨Ao87, co87, eo87⟩ := Kd.R_slice HO_3.out
                         subst eo87
                         try go_wp2_with (first | ((with_reducible refine gate_callee (f := 21) rfl ?_); refine goesL_ (some 168) rfl rfl Try.func21 (by kernel_rfl) rfl #[.slice Ao87 x11_24.length co87] rfl (by (try simp only [List.map_toArray, List.map_cons, List.map_nil]); first | done | rfl | (simp only [List.length_drop, List.length_take]; rfl)) ?_; (with_reducible refine (size_Latest.calls _ _ x11_24 t385 t386 t387 t388 t389 _ ?side1 ?side2 A77.out).mono ?_); (case side1 => repeat (first | exact (Kd.R_reads' HO_3.out).2.2 | (with_reducible refine Kd.C_alloc ?_ _) | (with_reducible refine Kd.C_drewN ?_ _) | (with_reducible refine Kd.C_drew ?_))); (case side2 => exact (Kd.R_reads' HO_3.out).2.1); rintro e w88 ⟨rfl, hb⟩; refine ⟨_, rfl, ?_⟩; replace HO_3 := Aside0.mk (Kd.R_below (by (with_reducible repeat (first | apply Kd.R_alloc | apply Kd.R_drewN | apply Kd.R_drew)); exact HO_3.out) hb); replace HO_16 := Aside0.mk (Kd.R_below (by (with_reducible repeat (first | apply Kd.R_alloc | apply Kd.R_drewN | apply Kd.R_drew)); exact HO_16.out) hb); replace BK359 := Aside0.mk (bb hb BK359.out); replace HB := Aside0.mk (below_step (by repeat first | refine below_set ?_ GE359.out | exact HB.out | apply below_alloc | apply pw_below_drewN | apply below_drew1) hb); (try clear hb); (try clear hb2); (try clear hk); (try clear hi)) | ((with_reducible refine gate_dst (N := 19) rfl ?_); (try (refine gate_guard (by rfl) ?_; dsimp only)); refine box_event ?hg (N := 19) ?hd (cs := #[.int .i64 0, .int .i64 0, .int .i64 0, .int .i64 0]) (t := 48) ?hr ?_; (case hd => rfl); (case hg => rfl); (case hr => first | (go_simp; done) | (go_simp; rfl)); intro gb390 hg w89 hbox hb; have BK390 := Aside0.mk (hbox); have GW390 := Aside0.mk ((by rw [hg]; exact (below_size (by repeat first | refine below_set ?_ GE359.out | exact HB.out | apply below_alloc | apply pw_below_drewN | apply below_drew1)) : w.heap.size ≤ gb390)); have GE390 := GW390; have NB359_390 := Aside0.mk ((by rw [hg]; exact lt1 BK359.out : gb359 ≠ gb390)); have NB390_359 := Aside0.mk ((by rw [hg]; exact gt1 BK359.out : gb390 ≠ gb359)); replace HO_3 := Aside0.mk (Kd.R_below (Kd.R_elderB (by (with_reducible repeat (first | apply Kd.R_alloc | apply Kd.R_drewN | apply Kd.R_drew)); exact HO_3.out) gb390 (Nat.le_of_eq hg.symm)) hb); replace HO_16 := Aside0.mk (Kd.R_below (Kd.R_elderB (by (with_reducible repeat (first | apply Kd.R_alloc | apply Kd.R_drewN | apply Kd.R_drew)); exact HO_16.out) gb390 (Nat.le_of_eq hg.symm)) hb); replace BK359 := Aside0.mk (bb hb BK359.out); replace HB := Aside0.mk (below_step (by repeat first | refine below_set ?_ GE359.out | exact HB.out | apply below_alloc | apply pw_below_drewN | apply below_drew1) hb); clear hb hbox hg; have hnb90 := NB390_359.out; have hnc90 := NB359_390.out; obtain ⟨hcz91_0, hcz91_1, hcz91_2, hcz91_3, hfz91_0, hfz91_1, hfz91_2, hfz91_3⟩ := cz4 BK390.out))
                         have n0_ : Aside0 (Kd.R k48 48 ((((w89.setCell ⟨gb390, 0, none⟩ (.int .i64 t385)).setCell ⟨gb390, 1, none⟩ (.int .i64 t386)).setCell ⟨gb390, 2, none⟩ (.int .i64 t387)).setCell ⟨gb390, 3, none⟩ (.int .i64 t388)) w.heap.size (fun k_ => some k_ ≠ (u16 : Value).ownBlock ∧ k_ ≠ gb390) (.slice Ao87 x11_24.length co87) x11_24) := ⟨by (with_reducible repeat (first | apply Kd.R_alloc | apply Kd.R_drewN | apply Kd.R_drew)); exact Kd.R_mono (Kd.R_far (p := ⟨gb390, 3, none⟩) (Kd.R_far (p := ⟨gb390, 2, none⟩) (Kd.R_far (p := ⟨gb390, 1, none⟩) (Kd.R_far (p := ⟨gb390, 0, none⟩) (Kd.R_mono HO_3.out (fun k_ hk => (⟨hk, hk.2⟩ : _ ∧ k_ ≠ gb390))) (fun _ hk => hk.2) (.int .i64 t385)) (fun _ hk => hk.2) (.int .i64 t386)) (fun _ hk => hk.2) (.int .i64 t387)) (fun _ hk => hk.2) (.int .i64 t388)) (fun _ hk => ⟨hk.1.1, hk.1.2⟩)⟩
                         have n1_ : Aside0 (Kd.R k48 48 ((((w89.setCell ⟨gb390, 0, none⟩ (.int .i64 t385)).setCell ⟨gb390, 1, none⟩ (.int .i64 t386)).setCell ⟨gb390, 2, none⟩ (.int .i64 t387)).setCell ⟨gb390, 3, none⟩ (.int .i64 t388)) w.heap.size (fun k_ => some k_ ≠ (.slice Ao87 x11_24.length co87 : Value).ownBlock ∧ k_ ≠ gb390) u16 x16_71) := ⟨by (with_reducible repeat (first | apply Kd.R_alloc | apply Kd.R_drewN | apply Kd.R_drew)); exact Kd.R_mono (Kd.R_far (p := ⟨gb390, 3, none⟩) (Kd.R_far (p := ⟨gb390, 2, none⟩) (Kd.R_far (p := ⟨gb390, 1, none⟩) (Kd.R_far (p := ⟨gb390, 0, none⟩) (Kd.R_mono HO_16.out (fun k_ hk => (⟨hk, hk.2⟩ : _ ∧ k_ ≠ gb390))) (fun _ hk => hk.2) (.int .i64 t385)) (fun _ hk => hk.2) (.int .i64 t386)) (fun _ hk => hk.2) (.int .i64 t387)) (fun _ hk => hk.2) (.int .i64 t388)) (fun _ hk => ⟨hk.1.1, hk.1.2⟩)⟩
                         have n2_ : Aside0 (((((w89.setCell ⟨gb390, 0, none⟩ (.int .i64 t385)).setCell ⟨gb390, 1, none⟩ (.int .i64 t386)).setCell ⟨gb390, 2, none⟩ (.int .i64 t387)).setCell ⟨gb390, 3, none⟩ (.int .i64 t388)).heap[gb359]? = some (.cells #[.int .i64 ((rd_T71 l0 x23_1).f0), .int .i64 ((rd_T71 l0 x23_1).f1), .int .i64 ((rd_T71 l0 x23_1).f2), .int .i64 ((rd_T71 l0 x23_1).f3), .int .i64 ((rd_T71 l0 x23_1).f4)] 71 (0, 0))) := ⟨by exact (far4 NB359_390.out BK359.out)⟩
                         have n3_ : Aside0 (((((w89.setCell ⟨gb390, 0, none⟩ (.int .i64 t385)).setCell ⟨gb390, 1, none⟩ (.int .i64 t386)).setCell ⟨gb390, 2, none⟩ (.int .i64 t387)).setCell ⟨gb390, 3, none⟩ (.int .i64 t388)).heap[gb390]? = some (.cells #[.int .i64 t385, .int .i64 t386, .int .i64 t387, .int .i64 t388] 48 (0, 0))) := ⟨by exact (put4 BK390.out)⟩
                         have n4_ : Aside0 (Below w.heap.size w ((((w89.setCell ⟨gb390, 0, none⟩ (.int .i64 t385)).setCell ⟨gb390, 1, none⟩ (.int .i64 t386)).setCell ⟨gb390, 2, none⟩ (.int .i64 t387)).setCell ⟨gb390, 3, none⟩ (.int .i64 t388))) := ⟨by repeat first | refine below_set ?_ GE359.out | refine below_set ?_ GE390.out | exact HB.out | apply below_alloc | apply pw_below_drewN | apply below_drew1⟩
                         (try clear HO_3)
                         (try clear HO_16)
                         (try clear BK359)
                         (try clear BK390)
                         (try clear HB)
                         generalize ((((w89.setCell ⟨gb390, 0, none⟩ (.int .i64 t385)).setCell ⟨gb390, 1, none⟩ (.int .i64 t386)).setCell ⟨gb390, 2, none⟩ (.int .i64 t387)).setCell ⟨gb390, 3, none⟩ (.int .i64 t388)) = w92 at n0_ n1_ n2_ n3_ n4_ ⊢
                         have HO_3 := n0_
                         have HO_16 := n1_
                         have BK359 := n2_
                         have BK390 := n3_
                         have HB := n4_
                         clear n0_ n1_ n2_ n3_ n4_
                         replace HO_3 := Aside0.mk (Kd.R_drew HO_3.out); replace HO_16 := Aside0.mk (Kd.R_drew HO_16.out); replace BK359 := Aside0.mk (blk_drew BK359.out); replace BK390 := Aside0.mk (blk_drew BK390.out); replace HB := Aside0.mk (below_drew1 HB.out)
                         have p392 : 0 ≤ ((ji83) : Int) := of_decide_eq_true (by first | (with_reducible assumption) | assumption)
                         have q392 : (ji83) < (x16_71.length : Int) := of_decide_eq_true (by first | (with_reducible assumption) | assumption)
                         obtain ⟨AX1_, cX1_, eX1_⟩ := Kd.R_slice HO_16.out
                         subst eX1_
                         obtain ⟨ad392, e392, hx392_0, hx392_1, hx392_2, hx392_3⟩ := at_T48 (Kd.R_reads' HO_16.out).2.2 (ji83) p392 q392
                         cases e392
                         replace p392 := eq_true p392
                         replace q392 := eq_true q392
                         refine start_ (n := 29) (S := fun w' => w'.cell? ⟨gb390, 0, none⟩ = some (.int .i64 t385) ∧ w'.cell? ⟨gb390, 1, none⟩ = some (.int .i64 t386) ∧ w'.cell? ⟨gb390, 2, none⟩ = some (.int .i64 t387) ∧ w'.cell? ⟨gb390, 3, none⟩ = some (.int .i64 t388) ∧ w'.cell? (ad392.add (((ji83)).toNat * 4)) = some (.int .i64 ((rd_T48 x16_71 (ji83)).f0)) ∧ w'.cell? ⟨(ad392.add (((ji83)).toNat * 4)).block, (ad392.add (((ji83)).toNat * 4)).off + 1, none⟩ = some (.int .i64 ((rd_T48 x16_71 (ji83)).f1)) ∧ w'.cell? ⟨(ad392.add (((ji83)).toNat * 4)).block, (ad392.add (((ji83)).toNat * 4)).off + 2, none⟩ = some (.int .i64 ((rd_T48 x16_71 (ji83)).f2)) ∧ w'.cell? ⟨(ad392.add (((ji83)).toNat * 4)).block, (ad392.add (((ji83)).toNat * 4)).off + 3, none⟩ = some (.int .i64 ((rd_T48 x16_71 (ji83)).f3))) (ds := []) #[false, false, false, false, false, false, false, false, false, false, false, false, false, false, false, false, false, false, false, false, false, false, false, false, false, false, false, false, false] (by kernel_rfl) rfl rfl ⟨(blk_cell BK390.out 0).trans rfl, (blk_cell BK390.out 1).trans rfl, (blk_cell BK390.out 2).trans rfl, (blk_cell BK390.out 3).trans rfl, hx392_0, hx392_1, hx392_2, hx392_3⟩ (fun hHeld => ?_); refine with_tabW backseatlaw16_SizeActive.tab46 backseatlaw16_SizeActive.bits46 (fun HT_ HW_ => ?_)
                         generalize w92.drew = w93 at HO_3 HO_16 BK359 BK390 HB hx392_0 hx392_1 hx392_2 hx392_3 hHeld ⊢
                         refine pu HT_.out (i := 0) (N := some 171) (v := ?_) (a' := ?_) m9_33_ rfl rfl (by kernel_rfl) (fun _ _ _ h => h) (by rfl) ?_ ?_ ?_; rotate_left; (·intro w'; go_simp; with_reducible rfl); rotate_left; (·simp only [Act.put, s1, s2, s3, i64_w, i32_w]; rfl)
                         refine one_ (i := 1) (N := some 172) m9_34_ rfl rfl (one_of HT_.out (by kernel_rfl)) (by decide) (fun K hK => ?_)
                         refine goes_ Try.func32 (by kernel_rfl) rfl #[.slice Ao87 x11_24.length co87] (by rfl) rfl rfl (by (try simp only [List.map_toArray, List.map_cons, List.map_nil]); first | done | rfl | (simp only [List.length_drop, List.length_take]; rfl)) ?_
                         with_reducible refine (size_Right.calls kj71 _ _ x11_24 true _ ?side1 ?side2 A78.out).mono ?_
                         (case side1 => repeat (first | exact (Kd.R_reads' HO_3.out).2.2 | (with_reducible refine Kd.C_alloc ?_ _) | (with_reducible refine Kd.C_drewN ?_ _) | (with_reducible refine Kd.C_drew ?_)))
                         (case side2 => exact (Kd.R_reads' HO_3.out).2.1)
                         rintro e w94 ⟨rfl, hb⟩
                         have HS4_ := (hb.cell (World.block_lt_of_cell? _ _ (hHeld.2.2.2.2.1))).trans (hHeld.2.2.2.2.1)
                         have HS5_ := (hb.cell (World.block_lt_of_cell? _ _ (hHeld.2.2.2.2.2.1))).trans (hHeld.2.2.2.2.2.1)
                         have HS6_ := (hb.cell (World.block_lt_of_cell? _ _ (hHeld.2.2.2.2.2.2.1))).trans (hHeld.2.2.2.2.2.2.1)
                         have HS7_ := (hb.cell (World.block_lt_of_cell? _ _ (hHeld.2.2.2.2.2.2.2))).trans (hHeld.2.2.2.2.2.2.2)
                         refine ⟨_, rfl, ?_⟩
                         replace HO_3 := Aside0.mk (Kd.R_below (by (with_reducible repeat (first | apply Kd.R_alloc | apply Kd.R_drewN | apply Kd.R_drew)); exact HO_3.out) hb); replace HO_16 := Aside0.mk (Kd.R_below (by (with_reducible repeat (first | apply Kd.R_alloc | apply Kd.R_drewN | apply Kd.R_drew)); exact HO_16.out) hb); replace BK359 := Aside0.mk (bb hb BK359.out); replace BK390 := Aside0.mk (bb hb BK390.out); replace HB := Aside0.mk (below_step (by repeat first | refine below_set ?_ GE359.out | refine below_set ?_ GE390.out | exact HB.out | apply below_alloc | apply pw_below_drewN | apply below_drew1) hb)
                         (try clear hb)
                         (try clear hb2)
                         (try clear hk)
                         (try clear hi)
                         obtain ⟨Ao95, co95, eo95⟩ := Kd.R_slice HO_16.out
                         (first | subst eo95 | (injection eo95 with f1_ f2_ f3_; have f4_ := f1_.symm; have f5_ := f3_.symm; clear f1_ f2_ f3_; subst f4_; subst f5_))
                         refine hK.out _ _ ⟨(blk_cell BK390.out 0).trans rfl, (blk_cell BK390.out 1).trans rfl, (blk_cell BK390.out 2).trans rfl, (blk_cell BK390.out 3).trans rfl, HS4_, HS5_, HS6_, HS7_⟩ (fun hHeld => ?_)
                         clear hK K
                         refine norm_ (a' := ?_) ?_ ?_
                         rotate_left
                         ·show Act.put _ (some 172) _ = _
                          simp only [Act.put, s1, s2, s3, i64_w, i32_w]
                          rfl
                         refine pu HT_.out (i := 2) (N := some 173) (v := ?_) (a' := ?_) m9_35_ rfl rfl (by kernel_rfl) (fun _ _ _ h => h) (by rfl) ?_ ?_ ?_; rotate_left; (·intro w'; go_simp; with_reducible rfl); rotate_left; (·simp only [Act.put, s1, s2, s3, i64_w, i32_w]; rfl)
                         refine pu HT_.out (i := 3) (N := some 174) (v := ?_) (a' := ?_) m9_36_ rfl rfl (by kernel_rfl) (fun _ _ _ h => h) (by rfl) ?_ ?_ ?_; rotate_left; (·intro w'; go_simp; with_reducible rfl); rotate_left; (·simp only [Act.put, s1, s2, s3, i64_w, i32_w]; rfl)
                         refine pu HT_.out (i := 4) (N := some 175) (v := ?_) (a' := ?_) m9_37_ rfl rfl (by kernel_rfl) (fun _ _ _ h => h) (by rfl) ?_ ?_ ?_; rotate_left; (·intro w'; go_simp; with_reducible rfl); rotate_left; (·simp only [Act.put, s1, s2, s3, i64_w, i32_w]; rfl)
                         refine pu HT_.out (i := 5) (N := some 176) (v := ?_) (a' := ?_) m9_38_ rfl rfl (by kernel_rfl) (fun _ _ _ h => h) (by rfl) ?_ ?_ ?_; rotate_left; (·intro w'; go_simp; with_reducible rfl); rotate_left; (·simp only [Act.put, s1, s2, s3, i64_w, i32_w]; rfl)
                         refine pu HT_.out (i := 6) (N := some 177) (v := ?_) (a' := ?_) m9_39_ rfl rfl (by kernel_rfl) (fun _ _ _ h => h) (by rfl) ?_ ?_ ?_; rotate_left; (·intro w'; go_simp; with_reducible rfl); rotate_left; (·simp only [Act.put, s1, s2, s3, i64_w, i32_w]; rfl)
                         refine pu HT_.out (i := 7) (N := some 178) (v := ?_) (a' := ?_) m9_40_ rfl rfl (by kernel_rfl) (fun _ _ _ h => h) (by rfl) ?_ ?_ ?_; rotate_left; (·intro w'; go_simp; with_reducible rfl); rotate_left; (·simp only [Act.put, s1, s2, s3, i64_w, i32_w]; rfl)
                         refine pu HT_.out (i := 8) (N := some 179) (v := ?_) (a' := ?_) m9_41_ rfl rfl (by kernel_rfl) (fun _ _ _ h => h) (by rfl) ?_ ?_ ?_; rotate_left; (·intro w'; go_simp; with_reducible rfl); rotate_left; (·simp only [Act.put, s1, s2, s3, i64_w, i32_w]; rfl)
                         refine pu HT_.out (i := 9) (N := some 180) (v := ?_) (a' := ?_) m9_42_ rfl rfl (by kernel_rfl) (fun _ _ _ h => h) (by rfl) ?_ ?_ ?_; rotate_left; (·intro w'; go_simp; with_reducible rfl); rotate_left; (·simp only [Act.put, s1, s2, s3, i64_w, i32_w]; rfl)
                         refine pu HT_.out (i := 10) (N := some 181) (v := ?_) (a' := ?_) m9_43_ rfl rfl (by kernel_rfl) (fun _ _ _ h => h) (by rfl) ?_ ?_ ?_; rotate_left; (·intro w'; go_simp; with_reducible rfl); rotate_left; (·simp only [Act.put, s1, s2, s3, i64_w, i32_w]; rfl)
                         refine pu HT_.out (i := 11) (N := some 182) (v := ?_) (a' := ?_) m9_44_ rfl rfl (by kernel_rfl) (fun _ _ _ h => h) (by rfl) ?_ ?_ ?_; rotate_left; (·intro w'; go_simp; with_reducible rfl); rotate_left; (·simp only [Act.put, s1, s2, s3, i64_w, i32_w]; rfl)
                         refine pu HT_.out (i := 12) (N := some 183) (v := ?_) (a' := ?_) m9_45_ rfl rfl (by kernel_rfl) (fun _ _ _ h => h) (by rfl) ?_ ?_ ?_; rotate_left; (·intro w'; go_simp; with_reducible rfl); rotate_left; (·simp only [Act.put, s1, s2, s3, i64_w, i32_w]; rfl)
                         refine pu HT_.out (i := 13) (N := some 184) (v := ?_) (a' := ?_) m9_46_ rfl rfl (by kernel_rfl) (fun _ _ _ h => h) (by rfl) ?_ ?_ ?_; rotate_left; (·intro w'; go_simp; with_reducible rfl); rotate_left; (·simp only [Act.put, s1, s2, s3, i64_w, i32_w]; rfl)
                         refine pu HT_.out (i := 14) (N := some 185) (v := ?_) (a' := ?_) m9_47_ rfl rfl (by kernel_rfl) (fun _ _ _ h => h) (by rfl) ?_ ?_ ?_; rotate_left; (·intro w'; go_simp; with_reducible rfl); rotate_left; (·simp only [Act.put, s1, s2, s3, i64_w, i32_w]; rfl)
                         refine pu HT_.out (i := 15) (N := some 186) (v := ?_) (a' := ?_) m9_48_ rfl rfl (by kernel_rfl) (fun _ _ _ h => h) (by rfl) ?_ ?_ ?_; rotate_left; (·intro w'; go_simp; with_reducible rfl); rotate_left; (·simp only [Act.put, s1, s2, s3, i64_w, i32_w]; rfl)
                         refine pu HT_.out (i := 16) (N := some 187) (v := ?_) (a' := ?_) m9_49_ rfl rfl (by kernel_rfl) (fun _ _ _ h => h) (by rfl) ?_ ?_ ?_; rotate_left; (·intro w'; go_simp; with_reducible rfl); rotate_left; (·simp only [Act.put, s1, s2, s3, i64_w, i32_w]; rfl)
                         refine pu HT_.out (i := 17) (N := some 188) (v := ?_) (a' := ?_) m9_50_ rfl rfl (by kernel_rfl) (fun _ _ _ h => h) (by rfl) ?_ ?_ ?_; rotate_left; (·intro w'; go_simp; with_reducible rfl); rotate_left; (·simp only [Act.put, s1, s2, s3, i64_w, i32_w]; rfl)
                         refine pu HT_.out (i := 19) (N := some 190) (v := ?_) (a' := ?_) m9_51_ rfl rfl (by kernel_rfl) (fun _ _ _ h => h) (by rfl) ?_ ?_ ?_; rotate_left; (·intro w'; go_simp; with_reducible rfl); rotate_left; (·simp only [Act.put, s1, s2, s3, i64_w, i32_w]; rfl)
                         refine pu HT_.out (i := 20) (N := some 191) (v := ?_) (a' := ?_) m9_52_ rfl rfl (by kernel_rfl) (fun _ _ _ h => h) (by rfl) ?_ ?_ ?_; rotate_left; (·intro w'; go_simp; with_reducible rfl); rotate_left; (·simp only [Act.put, s1, s2, s3, i64_w, i32_w]; rfl)
                         refine pu HT_.out (i := 21) (N := some 192) (v := ?_) (a' := ?_) m9_53_ rfl rfl (by kernel_rfl) (fun _ _ _ h => h) (by rfl) ?_ ?_ ?_; rotate_left; (·intro w'; go_simp; with_reducible rfl); rotate_left; (·simp only [Act.put, s1, s2, s3, i64_w, i32_w]; rfl)
                         refine pu HT_.out (i := 22) (N := some 193) (v := ?_) (a' := ?_) m9_54_ rfl rfl (by kernel_rfl) (fun _ _ _ h => h) (by rfl) ?_ ?_ ?_; rotate_left; (·intro w'; go_simp; with_reducible rfl); rotate_left; (·simp only [Act.put, s1, s2, s3, i64_w, i32_w]; rfl)
                         refine pu HT_.out (i := 23) (N := some 194) (v := ?_) (a' := ?_) m9_55_ rfl rfl (by kernel_rfl) (fun _ _ _ h => h) (by rfl) ?_ ?_ ?_; rotate_left; (·intro w'; go_simp; with_reducible rfl); rotate_left; (·simp only [Act.put, s1, s2, s3, i64_w, i32_w]; rfl)
                         refine take_ (i := 18) (N := some 189) (v := ?_) (a' := ?_) m9_56_ rfl rfl (take_ofW HT_.out HW_.out (by kernel_rfl)) (fun _ _ _ h => h) (Or.inl ⟨by rfl, ?_⟩) hHeld ?_ ?_; rotate_left; (·rintro w' ⟨s0, s1, s2, s3, s4, s5, s6, s7⟩; go_simp; with_reducible rfl); rotate_left; (·simp only [Act.put, s1, s2, s3, i64_w, i32_w]; rfl)
                         refine take_ (i := 24) (N := some 195) (v := ?_) (a' := ?_) m9_57_ rfl rfl (take_ofW HT_.out HW_.out (by kernel_rfl)) (fun _ _ _ h => h) (Or.inl ⟨by rfl, ?_⟩) hHeld ?_ ?_; rotate_left; (·rintro w' ⟨s0, s1, s2, s3, s4, s5, s6, s7⟩; go_simp; with_reducible rfl); rotate_left; (·simp only [Act.put, s1, s2, s3, i64_w, i32_w]; rfl)
                         refine pu HT_.out (i := 25) (N := some 196) (v := ?_) (a' := ?_) m9_58_ rfl rfl (by kernel_rfl) (fun _ _ _ h => h) (by rfl) ?_ ?_ ?_; rotate_left; (·intro w'; go_simp; with_reducible rfl); rotate_left; (·simp only [Act.put, s1, s2, s3, i64_w, i32_w]; rfl)
                         refine pu HT_.out (i := 26) (N := some 197) (v := ?_) (a' := ?_) m9_59_ rfl rfl (by kernel_rfl) (fun _ _ _ h => h) (by rfl) ?_ ?_ ?_; rotate_left; (·intro w'; go_simp; with_reducible rfl); rotate_left; (·simp only [Act.put, s1, s2, s3, i64_w, i32_w]; rfl)
                         refine pu HT_.out (i := 27) (N := some 198) (v := ?_) (a' := ?_) m9_60_ rfl rfl (by kernel_rfl) (fun _ _ _ h => h) (by rfl) ?_ ?_ ?_; rotate_left; (·intro w'; go_simp; with_reducible rfl); rotate_left; (·simp only [Act.put, s1, s2, s3, i64_w, i32_w]; rfl)
                         refine pu HT_.out (i := 28) (N := some 199) (v := ?_) (a' := ?_) m9_61_ rfl rfl (by kernel_rfl) (fun _ _ _ h => h) (by rfl) ?_ ?_ ?_; rotate_left; (·intro w'; go_simp; with_reducible rfl); rotate_left; (·simp only [Act.put, s1, s2, s3, i64_w, i32_w]; rfl)
                         refine done_ (done_of HT_.out (by kernel_rfl)) ?_
                         try go_wp2
                         go_ret
                         exact ⟨by first | rfl | (simp [errW_none, errW_some] <;> rfl) | (simp only [← hji83]; first | rfl | (simp [errW_none, errW_some] <;> rfl)) | (simp [*, errW_none, errW_some] <;> rfl), by repeat first | refine below_set ?_ GE359.out | refine below_set ?_ GE390.out | exact HB.out | apply below_alloc | apply pw_below_drewN | apply below_drew1⟩
                        ·as_aux_lemma =>
                         rw [if_neg c86] at H
                         have c86b0 : (!(t385 == ((rd_T48 x16_71 (ji83)).f0)) || (!(t386 == ((rd_T48 x16_71 (ji83)).f1)) || (!(t387 == ((rd_T48 x16_71 (ji83)).f2)) || (!(t388 == ((rd_T48 x16_71 (ji83)).f3)))))) = false := by simpa using c86
                         clear c86
                         have H' := Aside0.mk H
                         clear H
                         obtain ⟨Ao96, co96, eo96⟩ := Kd.R_slice HO_3.out
                         subst eo96
                         try go_wp2_with (first | ((with_reducible refine gate_callee (f := 21) rfl ?_); refine goesL_ (some 168) rfl rfl Try.func21 (by kernel_rfl) rfl #[.slice Ao96 x11_24.length co96] rfl (by (try simp only [List.map_toArray, List.map_cons, List.map_nil]); first | done | rfl | (simp only [List.length_drop, List.length_take]; rfl)) ?_; (with_reducible refine (size_Latest.calls _ _ x11_24 t385 t386 t387 t388 t389 _ ?side1 ?side2 A77.out).mono ?_); (case side1 => repeat (first | exact (Kd.R_reads' HO_3.out).2.2 | (with_reducible refine Kd.C_alloc ?_ _) | (with_reducible refine Kd.C_drewN ?_ _) | (with_reducible refine Kd.C_drew ?_))); (case side2 => exact (Kd.R_reads' HO_3.out).2.1); rintro e w97 ⟨rfl, hb⟩; refine ⟨_, rfl, ?_⟩; replace HO_3 := Aside0.mk (Kd.R_below (by (with_reducible repeat (first | apply Kd.R_alloc | apply Kd.R_drewN | apply Kd.R_drew)); exact HO_3.out) hb); replace HO_16 := Aside0.mk (Kd.R_below (by (with_reducible repeat (first | apply Kd.R_alloc | apply Kd.R_drewN | apply Kd.R_drew)); exact HO_16.out) hb); replace BK359 := Aside0.mk (bb hb BK359.out); replace HB := Aside0.mk (below_step (by repeat first | refine below_set ?_ GE359.out | exact HB.out | apply below_alloc | apply pw_below_drewN | apply below_drew1) hb); (try clear hb); (try clear hb2); (try clear hk); (try clear hi)) | ((with_reducible refine gate_dst (N := 19) rfl ?_); (try (refine gate_guard (by rfl) ?_; dsimp only)); refine box_event ?hg (N := 19) ?hd (cs := #[.int .i64 0, .int .i64 0, .int .i64 0, .int .i64 0]) (t := 48) ?hr ?_; (case hd => rfl); (case hg => rfl); (case hr => first | (go_simp; done) | (go_simp; rfl)); intro gb390 hg w98 hbox hb; have BK390 := Aside0.mk (hbox); have GW390 := Aside0.mk ((by rw [hg]; exact (below_size (by repeat first | refine below_set ?_ GE359.out | exact HB.out | apply below_alloc | apply pw_below_drewN | apply below_drew1)) : w.heap.size ≤ gb390)); have GE390 := GW390; have NB359_390 := Aside0.mk ((by rw [hg]; exact lt1 BK359.out : gb359 ≠ gb390)); have NB390_359 := Aside0.mk ((by rw [hg]; exact gt1 BK359.out : gb390 ≠ gb359)); replace HO_3 := Aside0.mk (Kd.R_below (Kd.R_elderB (by (with_reducible repeat (first | apply Kd.R_alloc | apply Kd.R_drewN | apply Kd.R_drew)); exact HO_3.out) gb390 (Nat.le_of_eq hg.symm)) hb); replace HO_16 := Aside0.mk (Kd.R_below (Kd.R_elderB (by (with_reducible repeat (first | apply Kd.R_alloc | apply Kd.R_drewN | apply Kd.R_drew)); exact HO_16.out) gb390 (Nat.le_of_eq hg.symm)) hb); replace BK359 := Aside0.mk (bb hb BK359.out); replace HB := Aside0.mk (below_step (by repeat first | refine below_set ?_ GE359.out | exact HB.out | apply below_alloc | apply pw_below_drewN | apply below_drew1) hb); clear hb hbox hg; have hnb99 := NB390_359.out; have hnc99 := NB359_390.out; obtain ⟨hcz100_0, hcz100_1, hcz100_2, hcz100_3, hfz100_0, hfz100_1, hfz100_2, hfz100_3⟩ := cz4 BK390.out))
                         have n0_ : Aside0 (Kd.R k48 48 ((((w98.setCell ⟨gb390, 0, none⟩ (.int .i64 t385)).setCell ⟨gb390, 1, none⟩ (.int .i64 t386)).setCell ⟨gb390, 2, none⟩ (.int .i64 t387)).setCell ⟨gb390, 3, none⟩ (.int .i64 t388)) w.heap.size (fun k_ => some k_ ≠ (u16 : Value).ownBlock ∧ k_ ≠ gb390) (.slice Ao96 x11_24.length co96) x11_24) := ⟨by (with_reducible repeat (first | apply Kd.R_alloc | apply Kd.R_drewN | apply Kd.R_drew)); exact Kd.R_mono (Kd.R_far (p := ⟨gb390, 3, none⟩) (Kd.R_far (p := ⟨gb390, 2, none⟩) (Kd.R_far (p := ⟨gb390, 1, none⟩) (Kd.R_far (p := ⟨gb390, 0, none⟩) (Kd.R_mono HO_3.out (fun k_ hk => (⟨hk, hk.2⟩ : _ ∧ k_ ≠ gb390))) (fun _ hk => hk.2) (.int .i64 t385)) (fun _ hk => hk.2) (.int .i64 t386)) (fun _ hk => hk.2) (.int .i64 t387)) (fun _ hk => hk.2) (.int .i64 t388)) (fun _ hk => ⟨hk.1.1, hk.1.2⟩)⟩
                         have n1_ : Aside0 (Kd.R k48 48 ((((w98.setCell ⟨gb390, 0, none⟩ (.int .i64 t385)).setCell ⟨gb390, 1, none⟩ (.int .i64 t386)).setCell ⟨gb390, 2, none⟩ (.int .i64 t387)).setCell ⟨gb390, 3, none⟩ (.int .i64 t388)) w.heap.size (fun k_ => some k_ ≠ (.slice Ao96 x11_24.length co96 : Value).ownBlock ∧ k_ ≠ gb390) u16 x16_71) := ⟨by (with_reducible repeat (first | apply Kd.R_alloc | apply Kd.R_drewN | apply Kd.R_drew)); exact Kd.R_mono (Kd.R_far (p := ⟨gb390, 3, none⟩) (Kd.R_far (p := ⟨gb390, 2, none⟩) (Kd.R_far (p := ⟨gb390, 1, none⟩) (Kd.R_far (p := ⟨gb390, 0, none⟩) (Kd.R_mono HO_16.out (fun k_ hk => (⟨hk, hk.2⟩ : _ ∧ k_ ≠ gb390))) (fun _ hk => hk.2) (.int .i64 t385)) (fun _ hk => hk.2) (.int .i64 t386)) (fun _ hk => hk.2) (.int .i64 t387)) (fun _ hk => hk.2) (.int .i64 t388)) (fun _ hk => ⟨hk.1.1, hk.1.2⟩)⟩
                         have n2_ : Aside0 (((((w98.setCell ⟨gb390, 0, none⟩ (.int .i64 t385)).setCell ⟨gb390, 1, none⟩ (.int .i64 t386)).setCell ⟨gb390, 2, none⟩ (.int .i64 t387)).setCell ⟨gb390, 3, none⟩ (.int .i64 t388)).heap[gb359]? = some (.cells #[.int .i64 ((rd_T71 l0 x23_1).f0), .int .i64 ((rd_T71 l0 x23_1).f1), .int .i64 ((rd_T71 l0 x23_1).f2), .int .i64 ((rd_T71 l0 x23_1).f3), .int .i64 ((rd_T71 l0 x23_1).f4)] 71 (0, 0))) := ⟨by exact (far4 NB359_390.out BK359.out)⟩
                         have n3_ : Aside0 (((((w98.setCell ⟨gb390, 0, none⟩ (.int .i64 t385)).setCell ⟨gb390, 1, none⟩ (.int .i64 t386)).setCell ⟨gb390, 2, none⟩ (.int .i64 t387)).setCell ⟨gb390, 3, none⟩ (.int .i64 t388)).heap[gb390]? = some (.cells #[.int .i64 t385, .int .i64 t386, .int .i64 t387, .int .i64 t388] 48 (0, 0))) := ⟨by exact (put4 BK390.out)⟩
                         have n4_ : Aside0 (Below w.heap.size w ((((w98.setCell ⟨gb390, 0, none⟩ (.int .i64 t385)).setCell ⟨gb390, 1, none⟩ (.int .i64 t386)).setCell ⟨gb390, 2, none⟩ (.int .i64 t387)).setCell ⟨gb390, 3, none⟩ (.int .i64 t388))) := ⟨by repeat first | refine below_set ?_ GE359.out | refine below_set ?_ GE390.out | exact HB.out | apply below_alloc | apply pw_below_drewN | apply below_drew1⟩
                         (try clear HO_3)
                         (try clear HO_16)
                         (try clear BK359)
                         (try clear BK390)
                         (try clear HB)
                         generalize ((((w98.setCell ⟨gb390, 0, none⟩ (.int .i64 t385)).setCell ⟨gb390, 1, none⟩ (.int .i64 t386)).setCell ⟨gb390, 2, none⟩ (.int .i64 t387)).setCell ⟨gb390, 3, none⟩ (.int .i64 t388)) = w101 at n0_ n1_ n2_ n3_ n4_ ⊢
                         have HO_3 := n0_
                         have HO_16 := n1_
                         have BK359 := n2_
                         have BK390 := n3_
                         have HB := n4_
                         clear n0_ n1_ n2_ n3_ n4_
                         replace HO_3 := Aside0.mk (Kd.R_drew HO_3.out); replace HO_16 := Aside0.mk (Kd.R_drew HO_16.out); replace BK359 := Aside0.mk (blk_drew BK359.out); replace BK390 := Aside0.mk (blk_drew BK390.out); replace HB := Aside0.mk (below_drew1 HB.out)
                         have p392 : 0 ≤ ((ji83) : Int) := of_decide_eq_true (by first | (with_reducible assumption) | assumption)
                         have q392 : (ji83) < (x16_71.length : Int) := of_decide_eq_true (by first | (with_reducible assumption) | assumption)
                         obtain ⟨AX2_, cX2_, eX2_⟩ := Kd.R_slice HO_16.out
                         subst eX2_
                         obtain ⟨ad392, e392, hx392_0, hx392_1, hx392_2, hx392_3⟩ := at_T48 (Kd.R_reads' HO_16.out).2.2 (ji83) p392 q392
                         cases e392
                         replace p392 := eq_true p392
                         replace q392 := eq_true q392
                         refine start_ (n := 29) (S := fun w' => w'.cell? ⟨gb390, 0, none⟩ = some (.int .i64 t385) ∧ w'.cell? ⟨gb390, 1, none⟩ = some (.int .i64 t386) ∧ w'.cell? ⟨gb390, 2, none⟩ = some (.int .i64 t387) ∧ w'.cell? ⟨gb390, 3, none⟩ = some (.int .i64 t388) ∧ w'.cell? (ad392.add (((ji83)).toNat * 4)) = some (.int .i64 ((rd_T48 x16_71 (ji83)).f0)) ∧ w'.cell? ⟨(ad392.add (((ji83)).toNat * 4)).block, (ad392.add (((ji83)).toNat * 4)).off + 1, none⟩ = some (.int .i64 ((rd_T48 x16_71 (ji83)).f1)) ∧ w'.cell? ⟨(ad392.add (((ji83)).toNat * 4)).block, (ad392.add (((ji83)).toNat * 4)).off + 2, none⟩ = some (.int .i64 ((rd_T48 x16_71 (ji83)).f2)) ∧ w'.cell? ⟨(ad392.add (((ji83)).toNat * 4)).block, (ad392.add (((ji83)).toNat * 4)).off + 3, none⟩ = some (.int .i64 ((rd_T48 x16_71 (ji83)).f3))) (ds := []) #[false, false, false, false, false, false, false, false, false, false, false, false, false, false, false, false, false, false, false, false, false, false, false, false, false, false, false, false, false] (by kernel_rfl) rfl rfl ⟨(blk_cell BK390.out 0).trans rfl, (blk_cell BK390.out 1).trans rfl, (blk_cell BK390.out 2).trans rfl, (blk_cell BK390.out 3).trans rfl, hx392_0, hx392_1, hx392_2, hx392_3⟩ (fun hHeld => ?_); refine with_tabW backseatlaw16_SizeActive.tab46 backseatlaw16_SizeActive.bits46 (fun HT_ HW_ => ?_)
                         generalize w101.drew = w102 at HO_3 HO_16 BK359 BK390 HB hx392_0 hx392_1 hx392_2 hx392_3 hHeld ⊢
                         refine pu HT_.out (i := 0) (N := some 171) (v := ?_) (a' := ?_) m9_33_ rfl rfl (by kernel_rfl) (fun _ _ _ h => h) (by rfl) ?_ ?_ ?_; rotate_left; (·intro w'; go_simp; with_reducible rfl); rotate_left; (·simp only [Act.put, s1, s2, s3, i64_w, i32_w]; rfl)
                         refine one_ (i := 1) (N := some 172) m9_34_ rfl rfl (one_of HT_.out (by kernel_rfl)) (by decide) (fun K hK => ?_)
                         refine goes_ Try.func32 (by kernel_rfl) rfl #[.slice Ao96 x11_24.length co96] (by rfl) rfl rfl (by (try simp only [List.map_toArray, List.map_cons, List.map_nil]); first | done | rfl | (simp only [List.length_drop, List.length_take]; rfl)) ?_
                         with_reducible refine (size_Right.calls kj71 _ _ x11_24 true _ ?side1 ?side2 A78.out).mono ?_
                         (case side1 => repeat (first | exact (Kd.R_reads' HO_3.out).2.2 | (with_reducible refine Kd.C_alloc ?_ _) | (with_reducible refine Kd.C_drewN ?_ _) | (with_reducible refine Kd.C_drew ?_)))
                         (case side2 => exact (Kd.R_reads' HO_3.out).2.1)
                         rintro e w103 ⟨rfl, hb⟩
                         have HS4_ := (hb.cell (World.block_lt_of_cell? _ _ (hHeld.2.2.2.2.1))).trans (hHeld.2.2.2.2.1)
                         have HS5_ := (hb.cell (World.block_lt_of_cell? _ _ (hHeld.2.2.2.2.2.1))).trans (hHeld.2.2.2.2.2.1)
                         have HS6_ := (hb.cell (World.block_lt_of_cell? _ _ (hHeld.2.2.2.2.2.2.1))).trans (hHeld.2.2.2.2.2.2.1)
                         have HS7_ := (hb.cell (World.block_lt_of_cell? _ _ (hHeld.2.2.2.2.2.2.2))).trans (hHeld.2.2.2.2.2.2.2)
                         refine ⟨_, rfl, ?_⟩
                         replace HO_3 := Aside0.mk (Kd.R_below (by (with_reducible repeat (first | apply Kd.R_alloc | apply Kd.R_drewN | apply Kd.R_drew)); exact HO_3.out) hb); replace HO_16 := Aside0.mk (Kd.R_below (by (with_reducible repeat (first | apply Kd.R_alloc | apply Kd.R_drewN | apply Kd.R_drew)); exact HO_16.out) hb); replace BK359 := Aside0.mk (bb hb BK359.out); replace BK390 := Aside0.mk (bb hb BK390.out); replace HB := Aside0.mk (below_step (by repeat first | refine below_set ?_ GE359.out | refine below_set ?_ GE390.out | exact HB.out | apply below_alloc | apply pw_below_drewN | apply below_drew1) hb)
                         (try clear hb)
                         (try clear hb2)
                         (try clear hk)
                         (try clear hi)
                         obtain ⟨Ao104, co104, eo104⟩ := Kd.R_slice HO_16.out
                         (first | subst eo104 | (injection eo104 with f1_ f2_ f3_; have f4_ := f1_.symm; have f5_ := f3_.symm; clear f1_ f2_ f3_; subst f4_; subst f5_))
                         refine hK.out _ _ ⟨(blk_cell BK390.out 0).trans rfl, (blk_cell BK390.out 1).trans rfl, (blk_cell BK390.out 2).trans rfl, (blk_cell BK390.out 3).trans rfl, HS4_, HS5_, HS6_, HS7_⟩ (fun hHeld => ?_)
                         clear hK K
                         refine norm_ (a' := ?_) ?_ ?_
                         rotate_left
                         ·show Act.put _ (some 172) _ = _
                          simp only [Act.put, s1, s2, s3, i64_w, i32_w]
                          rfl
                         refine pu HT_.out (i := 2) (N := some 173) (v := ?_) (a' := ?_) m9_35_ rfl rfl (by kernel_rfl) (fun _ _ _ h => h) (by rfl) ?_ ?_ ?_; rotate_left; (·intro w'; go_simp; with_reducible rfl); rotate_left; (·simp only [Act.put, s1, s2, s3, i64_w, i32_w]; rfl)
                         refine pu HT_.out (i := 3) (N := some 174) (v := ?_) (a' := ?_) m9_36_ rfl rfl (by kernel_rfl) (fun _ _ _ h => h) (by rfl) ?_ ?_ ?_; rotate_left; (·intro w'; go_simp; with_reducible rfl); rotate_left; (·simp only [Act.put, s1, s2, s3, i64_w, i32_w]; rfl)
                         refine pu HT_.out (i := 4) (N := some 175) (v := ?_) (a' := ?_) m9_37_ rfl rfl (by kernel_rfl) (fun _ _ _ h => h) (by rfl) ?_ ?_ ?_; rotate_left; (·intro w'; go_simp; with_reducible rfl); rotate_left; (·simp only [Act.put, s1, s2, s3, i64_w, i32_w]; rfl)
                         refine pu HT_.out (i := 5) (N := some 176) (v := ?_) (a' := ?_) m9_38_ rfl rfl (by kernel_rfl) (fun _ _ _ h => h) (by rfl) ?_ ?_ ?_; rotate_left; (·intro w'; go_simp; with_reducible rfl); rotate_left; (·simp only [Act.put, s1, s2, s3, i64_w, i32_w]; rfl)
                         refine pu HT_.out (i := 6) (N := some 177) (v := ?_) (a' := ?_) m9_39_ rfl rfl (by kernel_rfl) (fun _ _ _ h => h) (by rfl) ?_ ?_ ?_; rotate_left; (·intro w'; go_simp; with_reducible rfl); rotate_left; (·simp only [Act.put, s1, s2, s3, i64_w, i32_w]; rfl)
                         refine pu HT_.out (i := 7) (N := some 178) (v := ?_) (a' := ?_) m9_40_ rfl rfl (by kernel_rfl) (fun _ _ _ h => h) (by rfl) ?_ ?_ ?_; rotate_left; (·intro w'; go_simp; with_reducible rfl); rotate_left; (·simp only [Act.put, s1, s2, s3, i64_w, i32_w]; rfl)
                         refine pu HT_.out (i := 8) (N := some 179) (v := ?_) (a' := ?_) m9_41_ rfl rfl (by kernel_rfl) (fun _ _ _ h => h) (by rfl) ?_ ?_ ?_; rotate_left; (·intro w'; go_simp; with_reducible rfl); rotate_left; (·simp only [Act.put, s1, s2, s3, i64_w, i32_w]; rfl)
                         refine pu HT_.out (i := 9) (N := some 180) (v := ?_) (a' := ?_) m9_42_ rfl rfl (by kernel_rfl) (fun _ _ _ h => h) (by rfl) ?_ ?_ ?_; rotate_left; (·intro w'; go_simp; with_reducible rfl); rotate_left; (·simp only [Act.put, s1, s2, s3, i64_w, i32_w]; rfl)
                         refine pu HT_.out (i := 10) (N := some 181) (v := ?_) (a' := ?_) m9_43_ rfl rfl (by kernel_rfl) (fun _ _ _ h => h) (by rfl) ?_ ?_ ?_; rotate_left; (·intro w'; go_simp; with_reducible rfl); rotate_left; (·simp only [Act.put, s1, s2, s3, i64_w, i32_w]; rfl)
                         refine pu HT_.out (i := 11) (N := some 182) (v := ?_) (a' := ?_) m9_44_ rfl rfl (by kernel_rfl) (fun _ _ _ h => h) (by rfl) ?_ ?_ ?_; rotate_left; (·intro w'; go_simp; with_reducible rfl); rotate_left; (·simp only [Act.put, s1, s2, s3, i64_w, i32_w]; rfl)
                         refine pu HT_.out (i := 12) (N := some 183) (v := ?_) (a' := ?_) m9_45_ rfl rfl (by kernel_rfl) (fun _ _ _ h => h) (by rfl) ?_ ?_ ?_; rotate_left; (·intro w'; go_simp; with_reducible rfl); rotate_left; (·simp only [Act.put, s1, s2, s3, i64_w, i32_w]; rfl)
                         refine pu HT_.out (i := 13) (N := some 184) (v := ?_) (a' := ?_) m9_46_ rfl rfl (by kernel_rfl) (fun _ _ _ h => h) (by rfl) ?_ ?_ ?_; rotate_left; (·intro w'; go_simp; with_reducible rfl); rotate_left; (·simp only [Act.put, s1, s2, s3, i64_w, i32_w]; rfl)
                         refine pu HT_.out (i := 14) (N := some 185) (v := ?_) (a' := ?_) m9_47_ rfl rfl (by kernel_rfl) (fun _ _ _ h => h) (by rfl) ?_ ?_ ?_; rotate_left; (·intro w'; go_simp; with_reducible rfl); rotate_left; (·simp only [Act.put, s1, s2, s3, i64_w, i32_w]; rfl)
                         refine pu HT_.out (i := 15) (N := some 186) (v := ?_) (a' := ?_) m9_48_ rfl rfl (by kernel_rfl) (fun _ _ _ h => h) (by rfl) ?_ ?_ ?_; rotate_left; (·intro w'; go_simp; with_reducible rfl); rotate_left; (·simp only [Act.put, s1, s2, s3, i64_w, i32_w]; rfl)
                         refine pu HT_.out (i := 16) (N := some 187) (v := ?_) (a' := ?_) m9_49_ rfl rfl (by kernel_rfl) (fun _ _ _ h => h) (by rfl) ?_ ?_ ?_; rotate_left; (·intro w'; go_simp; with_reducible rfl); rotate_left; (·simp only [Act.put, s1, s2, s3, i64_w, i32_w]; rfl)
                         refine pu HT_.out (i := 17) (N := some 188) (v := ?_) (a' := ?_) m9_50_ rfl rfl (by kernel_rfl) (fun _ _ _ h => h) (by rfl) ?_ ?_ ?_; rotate_left; (·intro w'; go_simp; with_reducible rfl); rotate_left; (·simp only [Act.put, s1, s2, s3, i64_w, i32_w]; rfl)
                         refine pu HT_.out (i := 19) (N := some 190) (v := ?_) (a' := ?_) m9_51_ rfl rfl (by kernel_rfl) (fun _ _ _ h => h) (by rfl) ?_ ?_ ?_; rotate_left; (·intro w'; go_simp; with_reducible rfl); rotate_left; (·simp only [Act.put, s1, s2, s3, i64_w, i32_w]; rfl)
                         refine pu HT_.out (i := 20) (N := some 191) (v := ?_) (a' := ?_) m9_52_ rfl rfl (by kernel_rfl) (fun _ _ _ h => h) (by rfl) ?_ ?_ ?_; rotate_left; (·intro w'; go_simp; with_reducible rfl); rotate_left; (·simp only [Act.put, s1, s2, s3, i64_w, i32_w]; rfl)
                         refine pu HT_.out (i := 21) (N := some 192) (v := ?_) (a' := ?_) m9_53_ rfl rfl (by kernel_rfl) (fun _ _ _ h => h) (by rfl) ?_ ?_ ?_; rotate_left; (·intro w'; go_simp; with_reducible rfl); rotate_left; (·simp only [Act.put, s1, s2, s3, i64_w, i32_w]; rfl)
                         refine pu HT_.out (i := 22) (N := some 193) (v := ?_) (a' := ?_) m9_54_ rfl rfl (by kernel_rfl) (fun _ _ _ h => h) (by rfl) ?_ ?_ ?_; rotate_left; (·intro w'; go_simp; with_reducible rfl); rotate_left; (·simp only [Act.put, s1, s2, s3, i64_w, i32_w]; rfl)
                         refine pu HT_.out (i := 23) (N := some 194) (v := ?_) (a' := ?_) m9_55_ rfl rfl (by kernel_rfl) (fun _ _ _ h => h) (by rfl) ?_ ?_ ?_; rotate_left; (·intro w'; go_simp; with_reducible rfl); rotate_left; (·simp only [Act.put, s1, s2, s3, i64_w, i32_w]; rfl)
                         refine take_ (i := 18) (N := some 189) (v := ?_) (a' := ?_) m9_56_ rfl rfl (take_ofW HT_.out HW_.out (by kernel_rfl)) (fun _ _ _ h => h) (Or.inl ⟨by rfl, ?_⟩) hHeld ?_ ?_; rotate_left; (·rintro w' ⟨s0, s1, s2, s3, s4, s5, s6, s7⟩; go_simp; with_reducible rfl); rotate_left; (·simp only [Act.put, s1, s2, s3, i64_w, i32_w]; rfl)
                         refine take_ (i := 24) (N := some 195) (v := ?_) (a' := ?_) m9_57_ rfl rfl (take_ofW HT_.out HW_.out (by kernel_rfl)) (fun _ _ _ h => h) (Or.inl ⟨by rfl, ?_⟩) hHeld ?_ ?_; rotate_left; (·rintro w' ⟨s0, s1, s2, s3, s4, s5, s6, s7⟩; go_simp; with_reducible rfl); rotate_left; (·simp only [Act.put, s1, s2, s3, i64_w, i32_w]; rfl)
                         refine pu HT_.out (i := 25) (N := some 196) (v := ?_) (a' := ?_) m9_58_ rfl rfl (by kernel_rfl) (fun _ _ _ h => h) (by rfl) ?_ ?_ ?_; rotate_left; (·intro w'; go_simp; with_reducible rfl); rotate_left; (·simp only [Act.put, s1, s2, s3, i64_w, i32_w]; rfl)
                         refine pu HT_.out (i := 26) (N := some 197) (v := ?_) (a' := ?_) m9_59_ rfl rfl (by kernel_rfl) (fun _ _ _ h => h) (by rfl) ?_ ?_ ?_; rotate_left; (·intro w'; go_simp; with_reducible rfl); rotate_left; (·simp only [Act.put, s1, s2, s3, i64_w, i32_w]; rfl)
                         refine pu HT_.out (i := 27) (N := some 198) (v := ?_) (a' := ?_) m9_60_ rfl rfl (by kernel_rfl) (fun _ _ _ h => h) (by rfl) ?_ ?_ ?_; rotate_left; (·intro w'; go_simp; with_reducible rfl); rotate_left; (·simp only [Act.put, s1, s2, s3, i64_w, i32_w]; rfl)
                         refine pu HT_.out (i := 28) (N := some 199) (v := ?_) (a' := ?_) m9_61_ rfl rfl (by kernel_rfl) (fun _ _ _ h => h) (by rfl) ?_ ?_ ?_; rotate_left; (·intro w'; go_simp; with_reducible rfl); rotate_left; (·simp only [Act.put, s1, s2, s3, i64_w, i32_w]; rfl)
                         refine done_ (done_of HT_.out (by kernel_rfl)) ?_
                         try go_wp2
                         go_roundg kj71
                         case measure => have := HK1.out; have := HK2.out; have := HJ24.out; have := HK4.out; have := HJ71.out; omega
                         case rel => exact ⟨(x11_24), (x16_71), ((wrap64 (x5_1 + (wrap64 (1 + (Int.tmod (wrap64 ((Int.tmod ((rd_T71 l0 x23_1).f4) 9) + 9)) 9)))))), (wrap64 (x23_1 + 1)), (by first | rfl | (simp; done) | (simp [*]; done)), (by first | rfl | (simp; done) | (simp [*]; done)), H', ⟨by have := HK1.out; have := HK2.out; have := HJ24.out; have := HK4.out; have := HJ71.out; omega⟩, ⟨by (with_reducible repeat (first | apply Kd.R_alloc | apply Kd.R_drewN | apply Kd.R_drew)); exact Kd.R_mono HO_3.out (fun _ hk => hk.1)⟩, ⟨by (with_reducible repeat (first | apply Kd.R_alloc | apply Kd.R_drewN | apply Kd.R_drew)); exact Kd.R_mono HO_16.out (fun _ hk => hk.1)⟩, ⟨by repeat first | refine below_set ?_ GE359.out | refine below_set ?_ GE390.out | exact HB.out | apply below_alloc | apply pw_below_drewN | apply below_drew1⟩⟩
                       ·rw [if_neg c85] at H
                        exact absurd H (by simp)
                      ·rw [if_neg c84] at H
                       exact absurd H (by simp)
                     ·as_aux_lemma =>
                      rw [if_neg c82] at H
                      have c82b0 : (t389 == 0) = false := beq_eq_false_iff_ne.mpr c82
                      have c82b1 : (t389 != 0) = true := bne_iff_ne.mpr c82
                      obtain rfl := Option.some.inj H
                      obtain ⟨Ao105, co105, eo105⟩ := Kd.R_slice HO_3.out
                      subst eo105
                      try go_wp2_with (first | ((with_reducible refine gate_callee (f := 21) rfl ?_); refine goesL_ (some 168) rfl rfl Try.func21 (by kernel_rfl) rfl #[.slice Ao105 x11_24.length co105] rfl (by (try simp only [List.map_toArray, List.map_cons, List.map_nil]); first | done | rfl | (simp only [List.length_drop, List.length_take]; rfl)) ?_; (with_reducible refine (size_Latest.calls _ _ x11_24 t385 t386 t387 t388 t389 _ ?side1 ?side2 A77.out).mono ?_); (case side1 => repeat (first | exact (Kd.R_reads' HO_3.out).2.2 | (with_reducible refine Kd.C_alloc ?_ _) | (with_reducible refine Kd.C_drewN ?_ _) | (with_reducible refine Kd.C_drew ?_))); (case side2 => exact (Kd.R_reads' HO_3.out).2.1); rintro e w106 ⟨rfl, hb⟩; refine ⟨_, rfl, ?_⟩; replace HO_3 := Aside0.mk (Kd.R_below (by (with_reducible repeat (first | apply Kd.R_alloc | apply Kd.R_drewN | apply Kd.R_drew)); exact HO_3.out) hb); replace HO_16 := Aside0.mk (Kd.R_below (by (with_reducible repeat (first | apply Kd.R_alloc | apply Kd.R_drewN | apply Kd.R_drew)); exact HO_16.out) hb); replace BK359 := Aside0.mk (bb hb BK359.out); replace HB := Aside0.mk (below_step (by repeat first | refine below_set ?_ GE359.out | exact HB.out | apply below_alloc | apply pw_below_drewN | apply below_drew1) hb); (try clear hb); (try clear hb2); (try clear hk); (try clear hi)) | ((with_reducible refine gate_dst (N := 19) rfl ?_); (try (refine gate_guard (by rfl) ?_; dsimp only)); refine box_event ?hg (N := 19) ?hd (cs := #[.int .i64 0, .int .i64 0, .int .i64 0, .int .i64 0]) (t := 48) ?hr ?_; (case hd => rfl); (case hg => rfl); (case hr => first | (go_simp; done) | (go_simp; rfl)); intro gb390 hg w107 hbox hb; have BK390 := Aside0.mk (hbox); have GW390 := Aside0.mk ((by rw [hg]; exact (below_size (by repeat first | refine below_set ?_ GE359.out | exact HB.out | apply below_alloc | apply pw_below_drewN | apply below_drew1)) : w.heap.size ≤ gb390)); have GE390 := GW390; have NB359_390 := Aside0.mk ((by rw [hg]; exact lt1 BK359.out : gb359 ≠ gb390)); have NB390_359 := Aside0.mk ((by rw [hg]; exact gt1 BK359.out : gb390 ≠ gb359)); replace HO_3 := Aside0.mk (Kd.R_below (Kd.R_elderB (by (with_reducible repeat (first | apply Kd.R_alloc | apply Kd.R_drewN | apply Kd.R_drew)); exact HO_3.out) gb390 (Nat.le_of_eq hg.symm)) hb); replace HO_16 := Aside0.mk (Kd.R_below (Kd.R_elderB (by (with_reducible repeat (first | apply Kd.R_alloc | apply Kd.R_drewN | apply Kd.R_drew)); exact HO_16.out) gb390 (Nat.le_of_eq hg.symm)) hb); replace BK359 := Aside0.mk (bb hb BK359.out); replace HB := Aside0.mk (below_step (by repeat first | refine below_set ?_ GE359.out | exact HB.out | apply below_alloc | apply pw_below_drewN | apply below_drew1) hb); clear hb hbox hg; have hnb108 := NB390_359.out; have hnc108 := NB359_390.out; obtain ⟨hcz109_0, hcz109_1, hcz109_2, hcz109_3, hfz109_0, hfz109_1, hfz109_2, hfz109_3⟩ := cz4 BK390.out))
                      have n0_ : Aside0 (Kd.R k48 48 ((((w107.setCell ⟨gb390, 0, none⟩ (.int .i64 t385)).setCell ⟨gb390, 1, none⟩ (.int .i64 t386)).setCell ⟨gb390, 2, none⟩ (.int .i64 t387)).setCell ⟨gb390, 3, none⟩ (.int .i64 t388)) w.heap.size (fun k_ => some k_ ≠ (u16 : Value).ownBlock ∧ k_ ≠ gb390) (.slice Ao105 x11_24.length co105) x11_24) := ⟨by (with_reducible repeat (first | apply Kd.R_alloc | apply Kd.R_drewN | apply Kd.R_drew)); exact Kd.R_mono (Kd.R_far (p := ⟨gb390, 3, none⟩) (Kd.R_far (p := ⟨gb390, 2, none⟩) (Kd.R_far (p := ⟨gb390, 1, none⟩) (Kd.R_far (p := ⟨gb390, 0, none⟩) (Kd.R_mono HO_3.out (fun k_ hk => (⟨hk, hk.2⟩ : _ ∧ k_ ≠ gb390))) (fun _ hk => hk.2) (.int .i64 t385)) (fun _ hk => hk.2) (.int .i64 t386)) (fun _ hk => hk.2) (.int .i64 t387)) (fun _ hk => hk.2) (.int .i64 t388)) (fun _ hk => ⟨hk.1.1, hk.1.2⟩)⟩
                      have n1_ : Aside0 (Kd.R k48 48 ((((w107.setCell ⟨gb390, 0, none⟩ (.int .i64 t385)).setCell ⟨gb390, 1, none⟩ (.int .i64 t386)).setCell ⟨gb390, 2, none⟩ (.int .i64 t387)).setCell ⟨gb390, 3, none⟩ (.int .i64 t388)) w.heap.size (fun k_ => some k_ ≠ (.slice Ao105 x11_24.length co105 : Value).ownBlock ∧ k_ ≠ gb390) u16 x16_71) := ⟨by (with_reducible repeat (first | apply Kd.R_alloc | apply Kd.R_drewN | apply Kd.R_drew)); exact Kd.R_mono (Kd.R_far (p := ⟨gb390, 3, none⟩) (Kd.R_far (p := ⟨gb390, 2, none⟩) (Kd.R_far (p := ⟨gb390, 1, none⟩) (Kd.R_far (p := ⟨gb390, 0, none⟩) (Kd.R_mono HO_16.out (fun k_ hk => (⟨hk, hk.2⟩ : _ ∧ k_ ≠ gb390))) (fun _ hk => hk.2) (.int .i64 t385)) (fun _ hk => hk.2) (.int .i64 t386)) (fun _ hk => hk.2) (.int .i64 t387)) (fun _ hk => hk.2) (.int .i64 t388)) (fun _ hk => ⟨hk.1.1, hk.1.2⟩)⟩
                      have n2_ : Aside0 (((((w107.setCell ⟨gb390, 0, none⟩ (.int .i64 t385)).setCell ⟨gb390, 1, none⟩ (.int .i64 t386)).setCell ⟨gb390, 2, none⟩ (.int .i64 t387)).setCell ⟨gb390, 3, none⟩ (.int .i64 t388)).heap[gb359]? = some (.cells #[.int .i64 ((rd_T71 l0 x23_1).f0), .int .i64 ((rd_T71 l0 x23_1).f1), .int .i64 ((rd_T71 l0 x23_1).f2), .int .i64 ((rd_T71 l0 x23_1).f3), .int .i64 ((rd_T71 l0 x23_1).f4)] 71 (0, 0))) := ⟨by exact (far4 NB359_390.out BK359.out)⟩
                      have n3_ : Aside0 (((((w107.setCell ⟨gb390, 0, none⟩ (.int .i64 t385)).setCell ⟨gb390, 1, none⟩ (.int .i64 t386)).setCell ⟨gb390, 2, none⟩ (.int .i64 t387)).setCell ⟨gb390, 3, none⟩ (.int .i64 t388)).heap[gb390]? = some (.cells #[.int .i64 t385, .int .i64 t386, .int .i64 t387, .int .i64 t388] 48 (0, 0))) := ⟨by exact (put4 BK390.out)⟩
                      have n4_ : Aside0 (Below w.heap.size w ((((w107.setCell ⟨gb390, 0, none⟩ (.int .i64 t385)).setCell ⟨gb390, 1, none⟩ (.int .i64 t386)).setCell ⟨gb390, 2, none⟩ (.int .i64 t387)).setCell ⟨gb390, 3, none⟩ (.int .i64 t388))) := ⟨by repeat first | refine below_set ?_ GE359.out | refine below_set ?_ GE390.out | exact HB.out | apply below_alloc | apply pw_below_drewN | apply below_drew1⟩
                      (try clear HO_3)
                      (try clear HO_16)
                      (try clear BK359)
                      (try clear BK390)
                      (try clear HB)
                      generalize ((((w107.setCell ⟨gb390, 0, none⟩ (.int .i64 t385)).setCell ⟨gb390, 1, none⟩ (.int .i64 t386)).setCell ⟨gb390, 2, none⟩ (.int .i64 t387)).setCell ⟨gb390, 3, none⟩ (.int .i64 t388)) = w110 at n0_ n1_ n2_ n3_ n4_ ⊢
                      have HO_3 := n0_
                      have HO_16 := n1_
                      have BK359 := n2_
                      have BK390 := n3_
                      have HB := n4_
                      clear n0_ n1_ n2_ n3_ n4_
                      replace HO_3 := Aside0.mk (Kd.R_drew HO_3.out); replace HO_16 := Aside0.mk (Kd.R_drew HO_16.out); replace BK359 := Aside0.mk (blk_drew BK359.out); replace BK390 := Aside0.mk (blk_drew BK390.out); replace HB := Aside0.mk (below_drew1 HB.out)
                      refine start_ (n := 29) (S := fun w' => True) (ds := []) #[false, false, false, false, false, false, false, false, false, false, false, false, false, false, false, false, false, false, false, false, false, false, false, false, false, false, false, false, false] (by kernel_rfl) rfl rfl trivial (fun hHeld => ?_); refine with_tabW backseatlaw16_SizeActive.tab46 backseatlaw16_SizeActive.bits46 (fun HT_ HW_ => ?_)
                      generalize w110.drew = w111 at HO_3 HO_16 BK359 BK390 HB hHeld ⊢
                      refine pu HT_.out (i := 0) (N := some 171) (v := ?_) (a' := ?_) m9_33_ rfl rfl (by kernel_rfl) (fun _ _ _ h => h) (by rfl) ?_ ?_ ?_; rotate_left; (·intro w'; go_simp; with_reducible rfl); rotate_left; (·simp only [Act.put, s1, s2, s3, i64_w, i32_w]; rfl)
                      refine one_ (i := 1) (N := some 172) m9_34_ rfl rfl (one_of HT_.out (by kernel_rfl)) (by decide) (fun K hK => ?_)
                      refine goes_ Try.func32 (by kernel_rfl) rfl #[.slice Ao105 x11_24.length co105] (by rfl) rfl rfl (by (try simp only [List.map_toArray, List.map_cons, List.map_nil]); first | done | rfl | (simp only [List.length_drop, List.length_take]; rfl)) ?_
                      with_reducible refine (size_Right.calls kj71 _ _ x11_24 true _ ?side1 ?side2 A78.out).mono ?_
                      (case side1 => repeat (first | exact (Kd.R_reads' HO_3.out).2.2 | (with_reducible refine Kd.C_alloc ?_ _) | (with_reducible refine Kd.C_drewN ?_ _) | (with_reducible refine Kd.C_drew ?_)))
                      (case side2 => exact (Kd.R_reads' HO_3.out).2.1)
                      rintro e w112 ⟨rfl, hb⟩
                      refine ⟨_, rfl, ?_⟩
                      replace HO_3 := Aside0.mk (Kd.R_below (by (with_reducible repeat (first | apply Kd.R_alloc | apply Kd.R_drewN | apply Kd.R_drew)); exact HO_3.out) hb); replace HO_16 := Aside0.mk (Kd.R_below (by (with_reducible repeat (first | apply Kd.R_alloc | apply Kd.R_drewN | apply Kd.R_drew)); exact HO_16.out) hb); replace BK359 := Aside0.mk (bb hb BK359.out); replace BK390 := Aside0.mk (bb hb BK390.out); replace HB := Aside0.mk (below_step (by repeat first | refine below_set ?_ GE359.out | refine below_set ?_ GE390.out | exact HB.out | apply below_alloc | apply pw_below_drewN | apply below_drew1) hb)
                      (try clear hb)
                      (try clear hb2)
                      (try clear hk)
                      (try clear hi)
                      obtain ⟨Ao113, co113, eo113⟩ := Kd.R_slice HO_16.out
                      (first | subst eo113 | (injection eo113 with f1_ f2_ f3_; have f4_ := f1_.symm; have f5_ := f3_.symm; clear f1_ f2_ f3_; subst f4_; subst f5_))
                      refine hK.out _ _ trivial (fun hHeld => ?_)
                      clear hK K
                      refine norm_ (a' := ?_) ?_ ?_
                      rotate_left
                      ·show Act.put _ (some 172) _ = _
                       simp only [Act.put, s1, s2, s3, i64_w, i32_w]
                       rfl
                      refine pu HT_.out (i := 2) (N := some 173) (v := ?_) (a' := ?_) m9_35_ rfl rfl (by kernel_rfl) (fun _ _ _ h => h) (by rfl) ?_ ?_ ?_; rotate_left; (·intro w'; go_simp; with_reducible rfl); rotate_left; (·simp only [Act.put, s1, s2, s3, i64_w, i32_w]; rfl)
                      refine pu HT_.out (i := 3) (N := some 174) (v := ?_) (a' := ?_) m9_36_ rfl rfl (by kernel_rfl) (fun _ _ _ h => h) (by rfl) ?_ ?_ ?_; rotate_left; (·intro w'; go_simp; with_reducible rfl); rotate_left; (·simp only [Act.put, s1, s2, s3, i64_w, i32_w]; rfl)
                      refine pu HT_.out (i := 4) (N := some 175) (v := ?_) (a' := ?_) m9_37_ rfl rfl (by kernel_rfl) (fun _ _ _ h => h) (by rfl) ?_ ?_ ?_; rotate_left; (·intro w'; go_simp; with_reducible rfl); rotate_left; (·simp only [Act.put, s1, s2, s3, i64_w, i32_w]; rfl)
                      refine pu HT_.out (i := 5) (N := some 176) (v := ?_) (a' := ?_) m9_38_ rfl rfl (by kernel_rfl) (fun _ _ _ h => h) (by rfl) ?_ ?_ ?_; rotate_left; (·intro w'; go_simp; with_reducible rfl); rotate_left; (·simp only [Act.put, s1, s2, s3, i64_w, i32_w]; rfl)
                      refine pu HT_.out (i := 6) (N := some 177) (v := ?_) (a' := ?_) m9_39_ rfl rfl (by kernel_rfl) (fun _ _ _ h => h) (by rfl) ?_ ?_ ?_; rotate_left; (·intro w'; go_simp; with_reducible rfl); rotate_left; (·simp only [Act.put, s1, s2, s3, i64_w, i32_w]; rfl)
                      refine pu HT_.out (i := 7) (N := some 178) (v := ?_) (a' := ?_) m9_40_ rfl rfl (by kernel_rfl) (fun _ _ _ h => h) (by rfl) ?_ ?_ ?_; rotate_left; (·intro w'; go_simp; with_reducible rfl); rotate_left; (·simp only [Act.put, s1, s2, s3, i64_w, i32_w]; rfl)
                      refine pu HT_.out (i := 8) (N := some 179) (v := ?_) (a' := ?_) m9_41_ rfl rfl (by kernel_rfl) (fun _ _ _ h => h) (by rfl) ?_ ?_ ?_; rotate_left; (·intro w'; go_simp; with_reducible rfl); rotate_left; (·simp only [Act.put, s1, s2, s3, i64_w, i32_w]; rfl)
                      refine pu HT_.out (i := 9) (N := some 180) (v := ?_) (a' := ?_) m9_42_ rfl rfl (by kernel_rfl) (fun _ _ _ h => h) (by rfl) ?_ ?_ ?_; rotate_left; (·intro w'; go_simp; with_reducible rfl); rotate_left; (·simp only [Act.put, s1, s2, s3, i64_w, i32_w]; rfl)
                      refine pu HT_.out (i := 10) (N := some 181) (v := ?_) (a' := ?_) m9_43_ rfl rfl (by kernel_rfl) (fun _ _ _ h => h) (by rfl) ?_ ?_ ?_; rotate_left; (·intro w'; go_simp; with_reducible rfl); rotate_left; (·simp only [Act.put, s1, s2, s3, i64_w, i32_w]; rfl)
                      refine pu HT_.out (i := 11) (N := some 182) (v := ?_) (a' := ?_) m9_44_ rfl rfl (by kernel_rfl) (fun _ _ _ h => h) (by rfl) ?_ ?_ ?_; rotate_left; (·intro w'; go_simp; with_reducible rfl); rotate_left; (·simp only [Act.put, s1, s2, s3, i64_w, i32_w]; rfl)
                      refine pu HT_.out (i := 12) (N := some 183) (v := ?_) (a' := ?_) m9_45_ rfl rfl (by kernel_rfl) (fun _ _ _ h => h) (by rfl) ?_ ?_ ?_; rotate_left; (·intro w'; go_simp; with_reducible rfl); rotate_left; (·simp only [Act.put, s1, s2, s3, i64_w, i32_w]; rfl)
                      refine pu HT_.out (i := 13) (N := some 184) (v := ?_) (a' := ?_) m9_46_ rfl rfl (by kernel_rfl) (fun _ _ _ h => h) (by rfl) ?_ ?_ ?_; rotate_left; (·intro w'; go_simp; with_reducible rfl); rotate_left; (·simp only [Act.put, s1, s2, s3, i64_w, i32_w]; rfl)
                      refine pu HT_.out (i := 14) (N := some 185) (v := ?_) (a' := ?_) m9_47_ rfl rfl (by kernel_rfl) (fun _ _ _ h => h) (by rfl) ?_ ?_ ?_; rotate_left; (·intro w'; go_simp; with_reducible rfl); rotate_left; (·simp only [Act.put, s1, s2, s3, i64_w, i32_w]; rfl)
                      refine pu HT_.out (i := 15) (N := some 186) (v := ?_) (a' := ?_) m9_48_ rfl rfl (by kernel_rfl) (fun _ _ _ h => h) (by rfl) ?_ ?_ ?_; rotate_left; (·intro w'; go_simp; with_reducible rfl); rotate_left; (·simp only [Act.put, s1, s2, s3, i64_w, i32_w]; rfl)
                      refine pu HT_.out (i := 16) (N := some 187) (v := ?_) (a' := ?_) m9_49_ rfl rfl (by kernel_rfl) (fun _ _ _ h => h) (by rfl) ?_ ?_ ?_; rotate_left; (·intro w'; go_simp; with_reducible rfl); rotate_left; (·simp only [Act.put, s1, s2, s3, i64_w, i32_w]; rfl)
                      refine pu HT_.out (i := 17) (N := some 188) (v := ?_) (a' := ?_) m9_50_ rfl rfl (by kernel_rfl) (fun _ _ _ h => h) (by rfl) ?_ ?_ ?_; rotate_left; (·intro w'; go_simp; with_reducible rfl); rotate_left; (·simp only [Act.put, s1, s2, s3, i64_w, i32_w]; rfl)
                      refine pure_ (i := 18) (N := some 189) (v := undef) (a' := ?_) m9_62_ rfl rfl (any_of HT_.out (by kernel_rfl)) (fun _ _ _ h => h) (Or.inr ⟨by rfl, rfl⟩) ?_ ?_
                      rotate_left
                      ·simp only [Act.put, s1, s2, s3, i64_w, i32_w]
                       rfl
                      refine pure_ (i := 19) (N := some 190) (v := undef) (a' := ?_) m9_63_ rfl rfl (any_of HT_.out (by kernel_rfl)) (fun _ _ _ h => h) (Or.inr ⟨by rfl, rfl⟩) ?_ ?_
                      rotate_left
                      ·simp only [Act.put, s1, s2, s3, i64_w, i32_w]
                       rfl
                      refine pure_ (i := 20) (N := some 191) (v := undef) (a' := ?_) m9_64_ rfl rfl (any_of HT_.out (by kernel_rfl)) (fun _ _ _ h => h) (Or.inr ⟨by rfl, rfl⟩) ?_ ?_
                      rotate_left
                      ·simp only [Act.put, s1, s2, s3, i64_w, i32_w]
                       rfl
                      refine pure_ (i := 21) (N := some 192) (v := undef) (a' := ?_) m9_65_ rfl rfl (any_of HT_.out (by kernel_rfl)) (fun _ _ _ h => h) (Or.inr ⟨by rfl, rfl⟩) ?_ ?_
                      rotate_left
                      ·simp only [Act.put, s1, s2, s3, i64_w, i32_w]
                       rfl
                      refine pure_ (i := 22) (N := some 193) (v := undef) (a' := ?_) m9_66_ rfl rfl (any_of HT_.out (by kernel_rfl)) (fun _ _ _ h => h) (Or.inr ⟨by rfl, rfl⟩) ?_ ?_
                      rotate_left
                      ·simp only [Act.put, s1, s2, s3, i64_w, i32_w]
                       rfl
                      refine pure_ (i := 23) (N := some 194) (v := undef) (a' := ?_) m9_56_ rfl rfl (any_of HT_.out (by kernel_rfl)) (fun _ _ _ h => h) (Or.inr ⟨by rfl, rfl⟩) ?_ ?_
                      rotate_left
                      ·simp only [Act.put, s1, s2, s3, i64_w, i32_w]
                       rfl
                      refine pure_ (i := 24) (N := some 195) (v := undef) (a' := ?_) m9_57_ rfl rfl (any_of HT_.out (by kernel_rfl)) (fun _ _ _ h => h) (Or.inr ⟨by rfl, rfl⟩) ?_ ?_
                      rotate_left
                      ·simp only [Act.put, s1, s2, s3, i64_w, i32_w]
                       rfl
                      refine pure_ (i := 25) (N := some 196) (v := undef) (a' := ?_) m9_58_ rfl rfl (any_of HT_.out (by kernel_rfl)) (fun _ _ _ h => h) (Or.inr ⟨by rfl, rfl⟩) ?_ ?_
                      rotate_left
                      ·simp only [Act.put, s1, s2, s3, i64_w, i32_w]
                       rfl
                      refine pu HT_.out (i := 26) (N := some 197) (v := ?_) (a' := ?_) m9_59_ rfl rfl (by kernel_rfl) (fun _ _ _ h => h) (by rfl) ?_ ?_ ?_; rotate_left; (·intro w'; go_simp; with_reducible rfl); rotate_left; (·simp only [Act.put, s1, s2, s3, i64_w, i32_w]; rfl)
                      refine pu HT_.out (i := 27) (N := some 198) (v := ?_) (a' := ?_) m9_60_ rfl rfl (by kernel_rfl) (fun _ _ _ h => h) (by rfl) ?_ ?_ ?_; rotate_left; (·intro w'; go_simp; with_reducible rfl); rotate_left; (·simp only [Act.put, s1, s2, s3, i64_w, i32_w]; rfl)
                      refine pu HT_.out (i := 28) (N := some 199) (v := ?_) (a' := ?_) m9_61_ rfl rfl (by kernel_rfl) (fun _ _ _ h => h) (by rfl) ?_ ?_ ?_; rotate_left; (·intro w'; go_simp; with_reducible rfl); rotate_left; (·simp only [Act.put, s1, s2, s3, i64_w, i32_w]; rfl)
                      refine done_ (done_of HT_.out (by kernel_rfl)) ?_
                      try go_wp2
                      go_ret
                      exact ⟨by first | rfl | (simp [errW_none, errW_some] <;> rfl) | (simp [*, errW_none, errW_some] <;> rfl), by repeat first | refine below_set ?_ GE359.out | refine below_set ?_ GE390.out | exact HB.out | apply below_alloc | apply pw_below_drewN | apply below_drew1⟩
                    ·as_aux_lemma =>
                     rw [if_neg c81] at H
                     have c81b0 : decide (0 < (x16_71.length : Int)) = false := decide_eq_false c81
                     have c81b1 : decide (0 < x16_71.length) = false := decide_eq_false (by omega)
                     clear c81
                     have H' := Aside0.mk H
                     clear H
                     obtain ⟨Ao114, co114, eo114⟩ := Kd.R_slice HO_3.out
                     subst eo114
                     try go_wp2_with (first | ((with_reducible refine gate_callee (f := 21) rfl ?_); refine goesL_ (some 168) rfl rfl Try.func21 (by kernel_rfl) rfl #[.slice Ao114 x11_24.length co114] rfl (by (try simp only [List.map_toArray, List.map_cons, List.map_nil]); first | done | rfl | (simp only [List.length_drop, List.length_take]; rfl)) ?_; (with_reducible refine (size_Latest.calls _ _ x11_24 t385 t386 t387 t388 t389 _ ?side1 ?side2 A77.out).mono ?_); (case side1 => repeat (first | exact (Kd.R_reads' HO_3.out).2.2 | (with_reducible refine Kd.C_alloc ?_ _) | (with_reducible refine Kd.C_drewN ?_ _) | (with_reducible refine Kd.C_drew ?_))); (case side2 => exact (Kd.R_reads' HO_3.out).2.1); rintro e w115 ⟨rfl, hb⟩; refine ⟨_, rfl, ?_⟩; replace HO_3 := Aside0.mk (Kd.R_below (by (with_reducible repeat (first | apply Kd.R_alloc | apply Kd.R_drewN | apply Kd.R_drew)); exact HO_3.out) hb); replace HO_16 := Aside0.mk (Kd.R_below (by (with_reducible repeat (first | apply Kd.R_alloc | apply Kd.R_drewN | apply Kd.R_drew)); exact HO_16.out) hb); replace BK359 := Aside0.mk (bb hb BK359.out); replace HB := Aside0.mk (below_step (by repeat first | refine below_set ?_ GE359.out | exact HB.out | apply below_alloc | apply pw_below_drewN | apply below_drew1) hb); (try clear hb); (try clear hb2); (try clear hk); (try clear hi)) | ((with_reducible refine gate_dst (N := 19) rfl ?_); (try (refine gate_guard (by rfl) ?_; dsimp only)); refine box_event ?hg (N := 19) ?hd (cs := #[.int .i64 0, .int .i64 0, .int .i64 0, .int .i64 0]) (t := 48) ?hr ?_; (case hd => rfl); (case hg => rfl); (case hr => first | (go_simp; done) | (go_simp; rfl)); intro gb390 hg w116 hbox hb; have BK390 := Aside0.mk (hbox); have GW390 := Aside0.mk ((by rw [hg]; exact (below_size (by repeat first | refine below_set ?_ GE359.out | exact HB.out | apply below_alloc | apply pw_below_drewN | apply below_drew1)) : w.heap.size ≤ gb390)); have GE390 := GW390; have NB359_390 := Aside0.mk ((by rw [hg]; exact lt1 BK359.out : gb359 ≠ gb390)); have NB390_359 := Aside0.mk ((by rw [hg]; exact gt1 BK359.out : gb390 ≠ gb359)); replace HO_3 := Aside0.mk (Kd.R_below (Kd.R_elderB (by (with_reducible repeat (first | apply Kd.R_alloc | apply Kd.R_drewN | apply Kd.R_drew)); exact HO_3.out) gb390 (Nat.le_of_eq hg.symm)) hb); replace HO_16 := Aside0.mk (Kd.R_below (Kd.R_elderB (by (with_reducible repeat (first | apply Kd.R_alloc | apply Kd.R_drewN | apply Kd.R_drew)); exact HO_16.out) gb390 (Nat.le_of_eq hg.symm)) hb); replace BK359 := Aside0.mk (bb hb BK359.out); replace HB := Aside0.mk (below_step (by repeat first | refine below_set ?_ GE359.out | exact HB.out | apply below_alloc | apply pw_below_drewN | apply below_drew1) hb); clear hb hbox hg; have hnb117 := NB390_359.out; have hnc117 := NB359_390.out; obtain ⟨hcz118_0, hcz118_1, hcz118_2, hcz118_3, hfz118_0, hfz118_1, hfz118_2, hfz118_3⟩ := cz4 BK390.out))
                     have n0_ : Aside0 (Kd.R k48 48 ((((w116.setCell ⟨gb390, 0, none⟩ (.int .i64 t385)).setCell ⟨gb390, 1, none⟩ (.int .i64 t386)).setCell ⟨gb390, 2, none⟩ (.int .i64 t387)).setCell ⟨gb390, 3, none⟩ (.int .i64 t388)) w.heap.size (fun k_ => some k_ ≠ (u16 : Value).ownBlock ∧ k_ ≠ gb390) (.slice Ao114 x11_24.length co114) x11_24) := ⟨by (with_reducible repeat (first | apply Kd.R_alloc | apply Kd.R_drewN | apply Kd.R_drew)); exact Kd.R_mono (Kd.R_far (p := ⟨gb390, 3, none⟩) (Kd.R_far (p := ⟨gb390, 2, none⟩) (Kd.R_far (p := ⟨gb390, 1, none⟩) (Kd.R_far (p := ⟨gb390, 0, none⟩) (Kd.R_mono HO_3.out (fun k_ hk => (⟨hk, hk.2⟩ : _ ∧ k_ ≠ gb390))) (fun _ hk => hk.2) (.int .i64 t385)) (fun _ hk => hk.2) (.int .i64 t386)) (fun _ hk => hk.2) (.int .i64 t387)) (fun _ hk => hk.2) (.int .i64 t388)) (fun _ hk => ⟨hk.1.1, hk.1.2⟩)⟩
                     have n1_ : Aside0 (Kd.R k48 48 ((((w116.setCell ⟨gb390, 0, none⟩ (.int .i64 t385)).setCell ⟨gb390, 1, none⟩ (.int .i64 t386)).setCell ⟨gb390, 2, none⟩ (.int .i64 t387)).setCell ⟨gb390, 3, none⟩ (.int .i64 t388)) w.heap.size (fun k_ => some k_ ≠ (.slice Ao114 x11_24.length co114 : Value).ownBlock ∧ k_ ≠ gb390) u16 x16_71) := ⟨by (with_reducible repeat (first | apply Kd.R_alloc | apply Kd.R_drewN | apply Kd.R_drew)); exact Kd.R_mono (Kd.R_far (p := ⟨gb390, 3, none⟩) (Kd.R_far (p := ⟨gb390, 2, none⟩) (Kd.R_far (p := ⟨gb390, 1, none⟩) (Kd.R_far (p := ⟨gb390, 0, none⟩) (Kd.R_mono HO_16.out (fun k_ hk => (⟨hk, hk.2⟩ : _ ∧ k_ ≠ gb390))) (fun _ hk => hk.2) (.int .i64 t385)) (fun _ hk => hk.2) (.int .i64 t386)) (fun _ hk => hk.2) (.int .i64 t387)) (fun _ hk => hk.2) (.int .i64 t388)) (fun _ hk => ⟨hk.1.1, hk.1.2⟩)⟩
                     have n2_ : Aside0 (((((w116.setCell ⟨gb390, 0, none⟩ (.int .i64 t385)).setCell ⟨gb390, 1, none⟩ (.int .i64 t386)).setCell ⟨gb390, 2, none⟩ (.int .i64 t387)).setCell ⟨gb390, 3, none⟩ (.int .i64 t388)).heap[gb359]? = some (.cells #[.int .i64 ((rd_T71 l0 x23_1).f0), .int .i64 ((rd_T71 l0 x23_1).f1), .int .i64 ((rd_T71 l0 x23_1).f2), .int .i64 ((rd_T71 l0 x23_1).f3), .int .i64 ((rd_T71 l0 x23_1).f4)] 71 (0, 0))) := ⟨by exact (far4 NB359_390.out BK359.out)⟩
                     have n3_ : Aside0 (((((w116.setCell ⟨gb390, 0, none⟩ (.int .i64 t385)).setCell ⟨gb390, 1, none⟩ (.int .i64 t386)).setCell ⟨gb390, 2, none⟩ (.int .i64 t387)).setCell ⟨gb390, 3, none⟩ (.int .i64 t388)).heap[gb390]? = some (.cells #[.int .i64 t385, .int .i64 t386, .int .i64 t387, .int .i64 t388] 48 (0, 0))) := ⟨by exact (put4 BK390.out)⟩
                     have n4_ : Aside0 (Below w.heap.size w ((((w116.setCell ⟨gb390, 0, none⟩ (.int .i64 t385)).setCell ⟨gb390, 1, none⟩ (.int .i64 t386)).setCell ⟨gb390, 2, none⟩ (.int .i64 t387)).setCell ⟨gb390, 3, none⟩ (.int .i64 t388))) := ⟨by repeat first | refine below_set ?_ GE359.out | refine below_set ?_ GE390.out | exact HB.out | apply below_alloc | apply pw_below_drewN | apply below_drew1⟩
                     (try clear HO_3)
                     (try clear HO_16)
                     (try clear BK359)
                     (try clear BK390)
                     (try clear HB)
                     generalize ((((w116.setCell ⟨gb390, 0, none⟩ (.int .i64 t385)).setCell ⟨gb390, 1, none⟩ (.int .i64 t386)).setCell ⟨gb390, 2, none⟩ (.int .i64 t387)).setCell ⟨gb390, 3, none⟩ (.int .i64 t388)) = w119 at n0_ n1_ n2_ n3_ n4_ ⊢
                     have HO_3 := n0_
                     have HO_16 := n1_
                     have BK359 := n2_
                     have BK390 := n3_
                     have HB := n4_
                     clear n0_ n1_ n2_ n3_ n4_
                     replace HO_3 := Aside0.mk (Kd.R_drew HO_3.out); replace HO_16 := Aside0.mk (Kd.R_drew HO_16.out); replace BK359 := Aside0.mk (blk_drew BK359.out); replace BK390 := Aside0.mk (blk_drew BK390.out); replace HB := Aside0.mk (below_drew1 HB.out)
                     refine start_ (n := 29) (S := fun w' => True) (ds := []) #[false, false, false, false, false, false, false, false, false, false, false, false, false, false, false, false, false, false, false, false, false, false, false, false, false, false, false, false, false] (by kernel_rfl) rfl rfl trivial (fun hHeld => ?_); refine with_tabW backseatlaw16_SizeActive.tab46 backseatlaw16_SizeActive.bits46 (fun HT_ HW_ => ?_)
                     generalize w119.drew = w120 at HO_3 HO_16 BK359 BK390 HB hHeld ⊢
                     refine pu HT_.out (i := 0) (N := some 171) (v := ?_) (a' := ?_) m9_33_ rfl rfl (by kernel_rfl) (fun _ _ _ h => h) (by rfl) ?_ ?_ ?_; rotate_left; (·intro w'; go_simp; with_reducible rfl); rotate_left; (·simp only [Act.put, s1, s2, s3, i64_w, i32_w]; rfl)
                     refine one_ (i := 1) (N := some 172) m9_34_ rfl rfl (one_of HT_.out (by kernel_rfl)) (by decide) (fun K hK => ?_)
                     refine goes_ Try.func32 (by kernel_rfl) rfl #[.slice Ao114 x11_24.length co114] (by rfl) rfl rfl (by (try simp only [List.map_toArray, List.map_cons, List.map_nil]); first | done | rfl | (simp only [List.length_drop, List.length_take]; rfl)) ?_
                     with_reducible refine (size_Right.calls kj71 _ _ x11_24 true _ ?side1 ?side2 A78.out).mono ?_
                     (case side1 => repeat (first | exact (Kd.R_reads' HO_3.out).2.2 | (with_reducible refine Kd.C_alloc ?_ _) | (with_reducible refine Kd.C_drewN ?_ _) | (with_reducible refine Kd.C_drew ?_)))
                     (case side2 => exact (Kd.R_reads' HO_3.out).2.1)
                     rintro e w121 ⟨rfl, hb⟩
                     refine ⟨_, rfl, ?_⟩
                     replace HO_3 := Aside0.mk (Kd.R_below (by (with_reducible repeat (first | apply Kd.R_alloc | apply Kd.R_drewN | apply Kd.R_drew)); exact HO_3.out) hb); replace HO_16 := Aside0.mk (Kd.R_below (by (with_reducible repeat (first | apply Kd.R_alloc | apply Kd.R_drewN | apply Kd.R_drew)); exact HO_16.out) hb); replace BK359 := Aside0.mk (bb hb BK359.out); replace BK390 := Aside0.mk (bb hb BK390.out); replace HB := Aside0.mk (below_step (by repeat first | refine below_set ?_ GE359.out | refine below_set ?_ GE390.out | exact HB.out | apply below_alloc | apply pw_below_drewN | apply below_drew1) hb)
                     (try clear hb)
                     (try clear hb2)
                     (try clear hk)
                     (try clear hi)
                     obtain ⟨Ao122, co122, eo122⟩ := Kd.R_slice HO_16.out
                     (first | subst eo122 | (injection eo122 with f1_ f2_ f3_; have f4_ := f1_.symm; have f5_ := f3_.symm; clear f1_ f2_ f3_; subst f4_; subst f5_))
                     refine hK.out _ _ trivial (fun hHeld => ?_)
                     clear hK K
                     refine norm_ (a' := ?_) ?_ ?_
                     rotate_left
                     ·show Act.put _ (some 172) _ = _
                      simp only [Act.put, s1, s2, s3, i64_w, i32_w]
                      rfl
                     refine pu HT_.out (i := 2) (N := some 173) (v := ?_) (a' := ?_) m9_35_ rfl rfl (by kernel_rfl) (fun _ _ _ h => h) (by rfl) ?_ ?_ ?_; rotate_left; (·intro w'; go_simp; with_reducible rfl); rotate_left; (·simp only [Act.put, s1, s2, s3, i64_w, i32_w]; rfl)
                     refine pu HT_.out (i := 3) (N := some 174) (v := ?_) (a' := ?_) m9_36_ rfl rfl (by kernel_rfl) (fun _ _ _ h => h) (by rfl) ?_ ?_ ?_; rotate_left; (·intro w'; go_simp; with_reducible rfl); rotate_left; (·simp only [Act.put, s1, s2, s3, i64_w, i32_w]; rfl)
                     refine pu HT_.out (i := 4) (N := some 175) (v := ?_) (a' := ?_) m9_37_ rfl rfl (by kernel_rfl) (fun _ _ _ h => h) (by rfl) ?_ ?_ ?_; rotate_left; (·intro w'; go_simp; with_reducible rfl); rotate_left; (·simp only [Act.put, s1, s2, s3, i64_w, i32_w]; rfl)
                     refine pu HT_.out (i := 5) (N := some 176) (v := ?_) (a' := ?_) m9_38_ rfl rfl (by kernel_rfl) (fun _ _ _ h => h) (by rfl) ?_ ?_ ?_; rotate_left; (·intro w'; go_simp; with_reducible rfl); rotate_left; (·simp only [Act.put, s1, s2, s3, i64_w, i32_w]; rfl)
                     refine pu HT_.out (i := 6) (N := some 177) (v := ?_) (a' := ?_) m9_39_ rfl rfl (by kernel_rfl) (fun _ _ _ h => h) (by rfl) ?_ ?_ ?_; rotate_left; (·intro w'; go_simp; with_reducible rfl); rotate_left; (·simp only [Act.put, s1, s2, s3, i64_w, i32_w]; rfl)
                     refine pu HT_.out (i := 7) (N := some 178) (v := ?_) (a' := ?_) m9_40_ rfl rfl (by kernel_rfl) (fun _ _ _ h => h) (by rfl) ?_ ?_ ?_; rotate_left; (·intro w'; go_simp; with_reducible rfl); rotate_left; (·simp only [Act.put, s1, s2, s3, i64_w, i32_w]; rfl)
                     refine pu HT_.out (i := 8) (N := some 179) (v := ?_) (a' := ?_) m9_41_ rfl rfl (by kernel_rfl) (fun _ _ _ h => h) (by rfl) ?_ ?_ ?_; rotate_left; (·intro w'; go_simp; with_reducible rfl); rotate_left; (·simp only [Act.put, s1, s2, s3, i64_w, i32_w]; rfl)
                     refine pu HT_.out (i := 9) (N := some 180) (v := ?_) (a' := ?_) m9_42_ rfl rfl (by kernel_rfl) (fun _ _ _ h => h) (by rfl) ?_ ?_ ?_; rotate_left; (·intro w'; go_simp; with_reducible rfl); rotate_left; (·simp only [Act.put, s1, s2, s3, i64_w, i32_w]; rfl)
                     refine pu HT_.out (i := 10) (N := some 181) (v := ?_) (a' := ?_) m9_43_ rfl rfl (by kernel_rfl) (fun _ _ _ h => h) (by rfl) ?_ ?_ ?_; rotate_left; (·intro w'; go_simp; with_reducible rfl); rotate_left; (·simp only [Act.put, s1, s2, s3, i64_w, i32_w]; rfl)
                     refine pu HT_.out (i := 11) (N := some 182) (v := ?_) (a' := ?_) m9_44_ rfl rfl (by kernel_rfl) (fun _ _ _ h => h) (by rfl) ?_ ?_ ?_; rotate_left; (·intro w'; go_simp; with_reducible rfl); rotate_left; (·simp only [Act.put, s1, s2, s3, i64_w, i32_w]; rfl)
                     refine pu HT_.out (i := 12) (N := some 183) (v := ?_) (a' := ?_) m9_45_ rfl rfl (by kernel_rfl) (fun _ _ _ h => h) (by rfl) ?_ ?_ ?_; rotate_left; (·intro w'; go_simp; with_reducible rfl); rotate_left; (·simp only [Act.put, s1, s2, s3, i64_w, i32_w]; rfl)
                     refine pu HT_.out (i := 13) (N := some 184) (v := ?_) (a' := ?_) m9_46_ rfl rfl (by kernel_rfl) (fun _ _ _ h => h) (by rfl) ?_ ?_ ?_; rotate_left; (·intro w'; go_simp; with_reducible rfl); rotate_left; (·simp only [Act.put, s1, s2, s3, i64_w, i32_w]; rfl)
                     refine pu HT_.out (i := 14) (N := some 185) (v := ?_) (a' := ?_) m9_47_ rfl rfl (by kernel_rfl) (fun _ _ _ h => h) (by rfl) ?_ ?_ ?_; rotate_left; (·intro w'; go_simp; with_reducible rfl); rotate_left; (·simp only [Act.put, s1, s2, s3, i64_w, i32_w]; rfl)
                     refine pure_ (i := 15) (N := some 186) (v := undef) (a' := ?_) m9_48_ rfl rfl (any_of HT_.out (by kernel_rfl)) (fun _ _ _ h => h) (Or.inr ⟨by rfl, rfl⟩) ?_ ?_
                     rotate_left
                     ·simp only [Act.put, s1, s2, s3, i64_w, i32_w]
                      rfl
                     refine pure_ (i := 16) (N := some 187) (v := undef) (a' := ?_) m9_49_ rfl rfl (any_of HT_.out (by kernel_rfl)) (fun _ _ _ h => h) (Or.inr ⟨by rfl, rfl⟩) ?_ ?_
                     rotate_left
                     ·simp only [Act.put, s1, s2, s3, i64_w, i32_w]
                      rfl
                     refine pure_ (i := 17) (N := some 188) (v := undef) (a' := ?_) m9_50_ rfl rfl (any_of HT_.out (by kernel_rfl)) (fun _ _ _ h => h) (Or.inr ⟨by rfl, rfl⟩) ?_ ?_
                     rotate_left
                     ·simp only [Act.put, s1, s2, s3, i64_w, i32_w]
                      rfl
                     refine pure_ (i := 18) (N := some 189) (v := undef) (a' := ?_) m9_62_ rfl rfl (any_of HT_.out (by kernel_rfl)) (fun _ _ _ h => h) (Or.inr ⟨by rfl, rfl⟩) ?_ ?_
                     rotate_left
                     ·simp only [Act.put, s1, s2, s3, i64_w, i32_w]
                      rfl
                     refine pure_ (i := 19) (N := some 190) (v := undef) (a' := ?_) m9_63_ rfl rfl (any_of HT_.out (by kernel_rfl)) (fun _ _ _ h => h) (Or.inr ⟨by rfl, rfl⟩) ?_ ?_
                     rotate_left
                     ·simp only [Act.put, s1, s2, s3, i64_w, i32_w]
                      rfl
                     refine pure_ (i := 20) (N := some 191) (v := undef) (a' := ?_) m9_64_ rfl rfl (any_of HT_.out (by kernel_rfl)) (fun _ _ _ h => h) (Or.inr ⟨by rfl, rfl⟩) ?_ ?_
                     rotate_left
                     ·simp only [Act.put, s1, s2, s3, i64_w, i32_w]
                      rfl
                     refine pure_ (i := 21) (N := some 192) (v := undef) (a' := ?_) m9_65_ rfl rfl (any_of HT_.out (by kernel_rfl)) (fun _ _ _ h => h) (Or.inr ⟨by rfl, rfl⟩) ?_ ?_
                     rotate_left
                     ·simp only [Act.put, s1, s2, s3, i64_w, i32_w]
                      rfl
                     refine pure_ (i := 22) (N := some 193) (v := undef) (a' := ?_) m9_66_ rfl rfl (any_of HT_.out (by kernel_rfl)) (fun _ _ _ h => h) (Or.inr ⟨by rfl, rfl⟩) ?_ ?_
                     rotate_left
                     ·simp only [Act.put, s1, s2, s3, i64_w, i32_w]
                      rfl
                     refine pure_ (i := 23) (N := some 194) (v := undef) (a' := ?_) m9_56_ rfl rfl (any_of HT_.out (by kernel_rfl)) (fun _ _ _ h => h) (Or.inr ⟨by rfl, rfl⟩) ?_ ?_
                     rotate_left
                     ·simp only [Act.put, s1, s2, s3, i64_w, i32_w]
                      rfl
                     refine pure_ (i := 24) (N := some 195) (v := undef) (a' := ?_) m9_57_ rfl rfl (any_of HT_.out (by kernel_rfl)) (fun _ _ _ h => h) (Or.inr ⟨by rfl, rfl⟩) ?_ ?_
                     rotate_left
                     ·simp only [Act.put, s1, s2, s3, i64_w, i32_w]
                      rfl
                     refine pure_ (i := 25) (N := some 196) (v := undef) (a' := ?_) m9_58_ rfl rfl (any_of HT_.out (by kernel_rfl)) (fun _ _ _ h => h) (Or.inr ⟨by rfl, rfl⟩) ?_ ?_
                     rotate_left
                     ·simp only [Act.put, s1, s2, s3, i64_w, i32_w]
                      rfl
                     refine pure_ (i := 26) (N := some 197) (v := undef) (a' := ?_) m9_59_ rfl rfl (any_of HT_.out (by kernel_rfl)) (fun _ _ _ h => h) (Or.inr ⟨by rfl, rfl⟩) ?_ ?_
                     rotate_left
                     ·simp only [Act.put, s1, s2, s3, i64_w, i32_w]
                      rfl
                     refine pu HT_.out (i := 27) (N := some 198) (v := ?_) (a' := ?_) m9_60_ rfl rfl (by kernel_rfl) (fun _ _ _ h => h) (by rfl) ?_ ?_ ?_; rotate_left; (·intro w'; go_simp; with_reducible rfl); rotate_left; (·simp only [Act.put, s1, s2, s3, i64_w, i32_w]; rfl)
                     refine pu HT_.out (i := 28) (N := some 199) (v := ?_) (a' := ?_) m9_61_ rfl rfl (by kernel_rfl) (fun _ _ _ h => h) (by rfl) ?_ ?_ ?_; rotate_left; (·intro w'; go_simp; with_reducible rfl); rotate_left; (·simp only [Act.put, s1, s2, s3, i64_w, i32_w]; rfl)
                     refine done_ (done_of HT_.out (by kernel_rfl)) ?_
                     try go_wp2
                     go_roundg kj71
                     case measure => have := HK1.out; have := HK2.out; have := HJ24.out; have := HK4.out; have := HJ71.out; omega
                     case rel => exact ⟨(x11_24), (x16_71), ((wrap64 (x5_1 + (wrap64 (1 + (Int.tmod (wrap64 ((Int.tmod ((rd_T71 l0 x23_1).f4) 9) + 9)) 9)))))), (wrap64 (x23_1 + 1)), (by first | rfl | (simp; done) | (simp [*]; done)), (by first | rfl | (simp; done) | (simp [*]; done)), H', ⟨by have := HK1.out; have := HK2.out; have := HJ24.out; have := HK4.out; have := HJ71.out; omega⟩, ⟨by (with_reducible repeat (first | apply Kd.R_alloc | apply Kd.R_drewN | apply Kd.R_drew)); exact Kd.R_mono HO_3.out (fun _ hk => hk.1)⟩, ⟨by (with_reducible repeat (first | apply Kd.R_alloc | apply Kd.R_drewN | apply Kd.R_drew)); exact Kd.R_mono HO_16.out (fun _ hk => hk.1)⟩, ⟨by repeat first | refine below_set ?_ GE359.out | refine below_set ?_ GE390.out | exact HB.out | apply below_alloc | apply pw_below_drewN | apply below_drew1⟩⟩
                   ·as_aux_lemma =>
                    rw [if_neg c80] at H
                    have c80b0 : ((x11_24.length : Int) == (x16_71.length : Int)) = false := beq_eq_false_iff_ne.mpr c80
                    have c80b1 : ((x11_24.length : Int) != (x16_71.length : Int)) = true := bne_iff_ne.mpr c80
                    have c80b2 : (x11_24.length == x16_71.length) = false := by first | simpa using c80 | (simp at c80 ⊢; omega)
                    obtain rfl := Option.some.inj H
                    obtain ⟨Ao123, co123, eo123⟩ := Kd.R_slice HO_3.out
                    subst eo123
                    try go_wp2_with (first | ((with_reducible refine gate_callee (f := 21) rfl ?_); refine goesL_ (some 168) rfl rfl Try.func21 (by kernel_rfl) rfl #[.slice Ao123 x11_24.length co123] rfl (by (try simp only [List.map_toArray, List.map_cons, List.map_nil]); first | done | rfl | (simp only [List.length_drop, List.length_take]; rfl)) ?_; (with_reducible refine (size_Latest.calls _ _ x11_24 t385 t386 t387 t388 t389 _ ?side1 ?side2 A77.out).mono ?_); (case side1 => repeat (first | exact (Kd.R_reads' HO_3.out).2.2 | (with_reducible refine Kd.C_alloc ?_ _) | (with_reducible refine Kd.C_drewN ?_ _) | (with_reducible refine Kd.C_drew ?_))); (case side2 => exact (Kd.R_reads' HO_3.out).2.1); rintro e w124 ⟨rfl, hb⟩; refine ⟨_, rfl, ?_⟩; replace HO_3 := Aside0.mk (Kd.R_below (by (with_reducible repeat (first | apply Kd.R_alloc | apply Kd.R_drewN | apply Kd.R_drew)); exact HO_3.out) hb); replace HO_16 := Aside0.mk (Kd.R_below (by (with_reducible repeat (first | apply Kd.R_alloc | apply Kd.R_drewN | apply Kd.R_drew)); exact HO_16.out) hb); replace BK359 := Aside0.mk (bb hb BK359.out); replace HB := Aside0.mk (below_step (by repeat first | refine below_set ?_ GE359.out | exact HB.out | apply below_alloc | apply pw_below_drewN | apply below_drew1) hb); (try clear hb); (try clear hb2); (try clear hk); (try clear hi)) | ((with_reducible refine gate_dst (N := 19) rfl ?_); (try (refine gate_guard (by rfl) ?_; dsimp only)); refine box_event ?hg (N := 19) ?hd (cs := #[.int .i64 0, .int .i64 0, .int .i64 0, .int .i64 0]) (t := 48) ?hr ?_; (case hd => rfl); (case hg => rfl); (case hr => first | (go_simp; done) | (go_simp; rfl)); intro gb390 hg w125 hbox hb; have BK390 := Aside0.mk (hbox); have GW390 := Aside0.mk ((by rw [hg]; exact (below_size (by repeat first | refine below_set ?_ GE359.out | exact HB.out | apply below_alloc | apply pw_below_drewN | apply below_drew1)) : w.heap.size ≤ gb390)); have GE390 := GW390; have NB359_390 := Aside0.mk ((by rw [hg]; exact lt1 BK359.out : gb359 ≠ gb390)); have NB390_359 := Aside0.mk ((by rw [hg]; exact gt1 BK359.out : gb390 ≠ gb359)); replace HO_3 := Aside0.mk (Kd.R_below (Kd.R_elderB (by (with_reducible repeat (first | apply Kd.R_alloc | apply Kd.R_drewN | apply Kd.R_drew)); exact HO_3.out) gb390 (Nat.le_of_eq hg.symm)) hb); replace HO_16 := Aside0.mk (Kd.R_below (Kd.R_elderB (by (with_reducible repeat (first | apply Kd.R_alloc | apply Kd.R_drewN | apply Kd.R_drew)); exact HO_16.out) gb390 (Nat.le_of_eq hg.symm)) hb); replace BK359 := Aside0.mk (bb hb BK359.out); replace HB := Aside0.mk (below_step (by repeat first | refine below_set ?_ GE359.out | exact HB.out | apply below_alloc | apply pw_below_drewN | apply below_drew1) hb); clear hb hbox hg; have hnb126 := NB390_359.out; have hnc126 := NB359_390.out; obtain ⟨hcz127_0, hcz127_1, hcz127_2, hcz127_3, hfz127_0, hfz127_1, hfz127_2, hfz127_3⟩ := cz4 BK390.out))
                    have n0_ : Aside0 (Kd.R k48 48 ((((w125.setCell ⟨gb390, 0, none⟩ (.int .i64 t385)).setCell ⟨gb390, 1, none⟩ (.int .i64 t386)).setCell ⟨gb390, 2, none⟩ (.int .i64 t387)).setCell ⟨gb390, 3, none⟩ (.int .i64 t388)) w.heap.size (fun k_ => some k_ ≠ (u16 : Value).ownBlock ∧ k_ ≠ gb390) (.slice Ao123 x11_24.length co123) x11_24) := ⟨by (with_reducible repeat (first | apply Kd.R_alloc | apply Kd.R_drewN | apply Kd.R_drew)); exact Kd.R_mono (Kd.R_far (p := ⟨gb390, 3, none⟩) (Kd.R_far (p := ⟨gb390, 2, none⟩) (Kd.R_far (p := ⟨gb390, 1, none⟩) (Kd.R_far (p := ⟨gb390, 0, none⟩) (Kd.R_mono HO_3.out (fun k_ hk => (⟨hk, hk.2⟩ : _ ∧ k_ ≠ gb390))) (fun _ hk => hk.2) (.int .i64 t385)) (fun _ hk => hk.2) (.int .i64 t386)) (fun _ hk => hk.2) (.int .i64 t387)) (fun _ hk => hk.2) (.int .i64 t388)) (fun _ hk => ⟨hk.1.1, hk.1.2⟩)⟩
                    have n1_ : Aside0 (Kd.R k48 48 ((((w125.setCell ⟨gb390, 0, none⟩ (.int .i64 t385)).setCell ⟨gb390, 1, none⟩ (.int .i64 t386)).setCell ⟨gb390, 2, none⟩ (.int .i64 t387)).setCell ⟨gb390, 3, none⟩ (.int .i64 t388)) w.heap.size (fun k_ => some k_ ≠ (.slice Ao123 x11_24.length co123 : Value).ownBlock ∧ k_ ≠ gb390) u16 x16_71) := ⟨by (with_reducible repeat (first | apply Kd.R_alloc | apply Kd.R_drewN | apply Kd.R_drew)); exact Kd.R_mono (Kd.R_far (p := ⟨gb390, 3, none⟩) (Kd.R_far (p := ⟨gb390, 2, none⟩) (Kd.R_far (p := ⟨gb390, 1, none⟩) (Kd.R_far (p := ⟨gb390, 0, none⟩) (Kd.R_mono HO_16.out (fun k_ hk => (⟨hk, hk.2⟩ : _ ∧ k_ ≠ gb390))) (fun _ hk => hk.2) (.int .i64 t385)) (fun _ hk => hk.2) (.int .i64 t386)) (fun _ hk => hk.2) (.int .i64 t387)) (fun _ hk => hk.2) (.int .i64 t388)) (fun _ hk => ⟨hk.1.1, hk.1.2⟩)⟩
                    have n2_ : Aside0 (((((w125.setCell ⟨gb390, 0, none⟩ (.int .i64 t385)).setCell ⟨gb390, 1, none⟩ (.int .i64 t386)).setCell ⟨gb390, 2, none⟩ (.int .i64 t387)).setCell ⟨gb390, 3, none⟩ (.int .i64 t388)).heap[gb359]? = some (.cells #[.int .i64 ((rd_T71 l0 x23_1).f0), .int .i64 ((rd_T71 l0 x23_1).f1), .int .i64 ((rd_T71 l0 x23_1).f2), .int .i64 ((rd_T71 l0 x23_1).f3), .int .i64 ((rd_T71 l0 x23_1).f4)] 71 (0, 0))) := ⟨by exact (far4 NB359_390.out BK359.out)⟩
                    have n3_ : Aside0 (((((w125.setCell ⟨gb390, 0, none⟩ (.int .i64 t385)).setCell ⟨gb390, 1, none⟩ (.int .i64 t386)).setCell ⟨gb390, 2, none⟩ (.int .i64 t387)).setCell ⟨gb390, 3, none⟩ (.int .i64 t388)).heap[gb390]? = some (.cells #[.int .i64 t385, .int .i64 t386, .int .i64 t387, .int .i64 t388] 48 (0, 0))) := ⟨by exact (put4 BK390.out)⟩
                    have n4_ : Aside0 (Below w.heap.size w ((((w125.setCell ⟨gb390, 0, none⟩ (.int .i64 t385)).setCell ⟨gb390, 1, none⟩ (.int .i64 t386)).setCell ⟨gb390, 2, none⟩ (.int .i64 t387)).setCell ⟨gb390, 3, none⟩ (.int .i64 t388))) := ⟨by repeat first | refine below_set ?_ GE359.out | refine below_set ?_ GE390.out | exact HB.out | apply below_alloc | apply pw_below_drewN | apply below_drew1⟩
                    (try clear HO_3)
                    (try clear HO_16)
                    (try clear BK359)
                    (try clear BK390)
                    (try clear HB)
                    generalize ((((w125.setCell ⟨gb390, 0, none⟩ (.int .i64 t385)).setCell ⟨gb390, 1, none⟩ (.int .i64 t386)).setCell ⟨gb390, 2, none⟩ (.int .i64 t387)).setCell ⟨gb390, 3, none⟩ (.int .i64 t388)) = w128 at n0_ n1_ n2_ n3_ n4_ ⊢
                    have HO_3 := n0_
                    have HO_16 := n1_
                    have BK359 := n2_
                    have BK390 := n3_
                    have HB := n4_
                    clear n0_ n1_ n2_ n3_ n4_
                    replace HO_3 := Aside0.mk (Kd.R_drew HO_3.out); replace HO_16 := Aside0.mk (Kd.R_drew HO_16.out); replace BK359 := Aside0.mk (blk_drew BK359.out); replace BK390 := Aside0.mk (blk_drew BK390.out); replace HB := Aside0.mk (below_drew1 HB.out)
                    refine start_ (n := 29) (S := fun w' => True) (ds := []) #[false, false, false, false, false, false, false, false, false, false, false, false, false, false, false, false, false, false, false, false, false, false, false, false, false, false, false, false, false] (by kernel_rfl) rfl rfl trivial (fun hHeld => ?_); refine with_tabW backseatlaw16_SizeActive.tab46 backseatlaw16_SizeActive.bits46 (fun HT_ HW_ => ?_)
                    generalize w128.drew = w129 at HO_3 HO_16 BK359 BK390 HB hHeld ⊢
                    refine pu HT_.out (i := 0) (N := some 171) (v := ?_) (a' := ?_) m9_33_ rfl rfl (by kernel_rfl) (fun _ _ _ h => h) (by rfl) ?_ ?_ ?_; rotate_left; (·intro w'; go_simp; with_reducible rfl); rotate_left; (·simp only [Act.put, s1, s2, s3, i64_w, i32_w]; rfl)
                    refine one_ (i := 1) (N := some 172) m9_34_ rfl rfl (one_of HT_.out (by kernel_rfl)) (by decide) (fun K hK => ?_)
                    refine goes_ Try.func32 (by kernel_rfl) rfl #[.slice Ao123 x11_24.length co123] (by rfl) rfl rfl (by (try simp only [List.map_toArray, List.map_cons, List.map_nil]); first | done | rfl | (simp only [List.length_drop, List.length_take]; rfl)) ?_
                    with_reducible refine (size_Right.calls kj71 _ _ x11_24 true _ ?side1 ?side2 A78.out).mono ?_
                    (case side1 => repeat (first | exact (Kd.R_reads' HO_3.out).2.2 | (with_reducible refine Kd.C_alloc ?_ _) | (with_reducible refine Kd.C_drewN ?_ _) | (with_reducible refine Kd.C_drew ?_)))
                    (case side2 => exact (Kd.R_reads' HO_3.out).2.1)
                    rintro e w130 ⟨rfl, hb⟩
                    refine ⟨_, rfl, ?_⟩
                    replace HO_3 := Aside0.mk (Kd.R_below (by (with_reducible repeat (first | apply Kd.R_alloc | apply Kd.R_drewN | apply Kd.R_drew)); exact HO_3.out) hb); replace HO_16 := Aside0.mk (Kd.R_below (by (with_reducible repeat (first | apply Kd.R_alloc | apply Kd.R_drewN | apply Kd.R_drew)); exact HO_16.out) hb); replace BK359 := Aside0.mk (bb hb BK359.out); replace BK390 := Aside0.mk (bb hb BK390.out); replace HB := Aside0.mk (below_step (by repeat first | refine below_set ?_ GE359.out | refine below_set ?_ GE390.out | exact HB.out | apply below_alloc | apply pw_below_drewN | apply below_drew1) hb)
                    (try clear hb)
                    (try clear hb2)
                    (try clear hk)
                    (try clear hi)
                    obtain ⟨Ao131, co131, eo131⟩ := Kd.R_slice HO_16.out
                    (first | subst eo131 | (injection eo131 with f1_ f2_ f3_; have f4_ := f1_.symm; have f5_ := f3_.symm; clear f1_ f2_ f3_; subst f4_; subst f5_))
                    refine hK.out _ _ trivial (fun hHeld => ?_)
                    clear hK K
                    refine norm_ (a' := ?_) ?_ ?_
                    rotate_left
                    ·show Act.put _ (some 172) _ = _
                     simp only [Act.put, s1, s2, s3, i64_w, i32_w]
                     rfl
                    refine pu HT_.out (i := 2) (N := some 173) (v := ?_) (a' := ?_) m9_35_ rfl rfl (by kernel_rfl) (fun _ _ _ h => h) (by rfl) ?_ ?_ ?_; rotate_left; (·intro w'; go_simp; with_reducible rfl); rotate_left; (·simp only [Act.put, s1, s2, s3, i64_w, i32_w]; rfl)
                    refine pu HT_.out (i := 3) (N := some 174) (v := ?_) (a' := ?_) m9_36_ rfl rfl (by kernel_rfl) (fun _ _ _ h => h) (by rfl) ?_ ?_ ?_; rotate_left; (·intro w'; go_simp; with_reducible rfl); rotate_left; (·simp only [Act.put, s1, s2, s3, i64_w, i32_w]; rfl)
                    refine pu HT_.out (i := 4) (N := some 175) (v := ?_) (a' := ?_) m9_37_ rfl rfl (by kernel_rfl) (fun _ _ _ h => h) (by rfl) ?_ ?_ ?_; rotate_left; (·intro w'; go_simp; with_reducible rfl); rotate_left; (·simp only [Act.put, s1, s2, s3, i64_w, i32_w]; rfl)
                    refine pu HT_.out (i := 5) (N := some 176) (v := ?_) (a' := ?_) m9_38_ rfl rfl (by kernel_rfl) (fun _ _ _ h => h) (by rfl) ?_ ?_ ?_; rotate_left; (·intro w'; go_simp; with_reducible rfl); rotate_left; (·simp only [Act.put, s1, s2, s3, i64_w, i32_w]; rfl)
                    refine pu HT_.out (i := 6) (N := some 177) (v := ?_) (a' := ?_) m9_39_ rfl rfl (by kernel_rfl) (fun _ _ _ h => h) (by rfl) ?_ ?_ ?_; rotate_left; (·intro w'; go_simp; with_reducible rfl); rotate_left; (·simp only [Act.put, s1, s2, s3, i64_w, i32_w]; rfl)
                    refine pu HT_.out (i := 7) (N := some 178) (v := ?_) (a' := ?_) m9_40_ rfl rfl (by kernel_rfl) (fun _ _ _ h => h) (by rfl) ?_ ?_ ?_; rotate_left; (·intro w'; go_simp; with_reducible rfl); rotate_left; (·simp only [Act.put, s1, s2, s3, i64_w, i32_w]; rfl)
                    refine pu HT_.out (i := 8) (N := some 179) (v := ?_) (a' := ?_) m9_41_ rfl rfl (by kernel_rfl) (fun _ _ _ h => h) (by rfl) ?_ ?_ ?_; rotate_left; (·intro w'; go_simp; with_reducible rfl); rotate_left; (·simp only [Act.put, s1, s2, s3, i64_w, i32_w]; rfl)
                    refine pu HT_.out (i := 9) (N := some 180) (v := ?_) (a' := ?_) m9_42_ rfl rfl (by kernel_rfl) (fun _ _ _ h => h) (by rfl) ?_ ?_ ?_; rotate_left; (·intro w'; go_simp; with_reducible rfl); rotate_left; (·simp only [Act.put, s1, s2, s3, i64_w, i32_w]; rfl)
                    refine pu HT_.out (i := 10) (N := some 181) (v := ?_) (a' := ?_) m9_43_ rfl rfl (by kernel_rfl) (fun _ _ _ h => h) (by rfl) ?_ ?_ ?_; rotate_left; (·intro w'; go_simp; with_reducible rfl); rotate_left; (·simp only [Act.put, s1, s2, s3, i64_w, i32_w]; rfl)
                    refine pure_ (i := 11) (N := some 182) (v := undef) (a' := ?_) m9_44_ rfl rfl (any_of HT_.out (by kernel_rfl)) (fun _ _ _ h => h) (Or.inr ⟨by rfl, rfl⟩) ?_ ?_
                    rotate_left
                    ·simp only [Act.put, s1, s2, s3, i64_w, i32_w]
                     rfl
                    refine pure_ (i := 12) (N := some 183) (v := undef) (a' := ?_) m9_45_ rfl rfl (any_of HT_.out (by kernel_rfl)) (fun _ _ _ h => h) (Or.inr ⟨by rfl, rfl⟩) ?_ ?_
                    rotate_left
                    ·simp only [Act.put, s1, s2, s3, i64_w, i32_w]
                     rfl
                    refine pure_ (i := 13) (N := some 184) (v := undef) (a' := ?_) m9_46_ rfl rfl (any_of HT_.out (by kernel_rfl)) (fun _ _ _ h => h) (Or.inr ⟨by rfl, rfl⟩) ?_ ?_
                    rotate_left
                    ·simp only [Act.put, s1, s2, s3, i64_w, i32_w]
                     rfl
                    refine pure_ (i := 14) (N := some 185) (v := undef) (a' := ?_) m9_47_ rfl rfl (any_of HT_.out (by kernel_rfl)) (fun _ _ _ h => h) (Or.inr ⟨by rfl, rfl⟩) ?_ ?_
                    rotate_left
                    ·simp only [Act.put, s1, s2, s3, i64_w, i32_w]
                     rfl
                    refine pure_ (i := 15) (N := some 186) (v := undef) (a' := ?_) m9_48_ rfl rfl (any_of HT_.out (by kernel_rfl)) (fun _ _ _ h => h) (Or.inr ⟨by rfl, rfl⟩) ?_ ?_
                    rotate_left
                    ·simp only [Act.put, s1, s2, s3, i64_w, i32_w]
                     rfl
                    refine pure_ (i := 16) (N := some 187) (v := undef) (a' := ?_) m9_49_ rfl rfl (any_of HT_.out (by kernel_rfl)) (fun _ _ _ h => h) (Or.inr ⟨by rfl, rfl⟩) ?_ ?_
                    rotate_left
                    ·simp only [Act.put, s1, s2, s3, i64_w, i32_w]
                     rfl
                    refine pure_ (i := 17) (N := some 188) (v := undef) (a' := ?_) m9_50_ rfl rfl (any_of HT_.out (by kernel_rfl)) (fun _ _ _ h => h) (Or.inr ⟨by rfl, rfl⟩) ?_ ?_
                    rotate_left
                    ·simp only [Act.put, s1, s2, s3, i64_w, i32_w]
                     rfl
                    refine pure_ (i := 18) (N := some 189) (v := undef) (a' := ?_) m9_62_ rfl rfl (any_of HT_.out (by kernel_rfl)) (fun _ _ _ h => h) (Or.inr ⟨by rfl, rfl⟩) ?_ ?_
                    rotate_left
                    ·simp only [Act.put, s1, s2, s3, i64_w, i32_w]
                     rfl
                    refine pure_ (i := 19) (N := some 190) (v := undef) (a' := ?_) m9_63_ rfl rfl (any_of HT_.out (by kernel_rfl)) (fun _ _ _ h => h) (Or.inr ⟨by rfl, rfl⟩) ?_ ?_
                    rotate_left
                    ·simp only [Act.put, s1, s2, s3, i64_w, i32_w]
                     rfl
                    refine pure_ (i := 20) (N := some 191) (v := undef) (a' := ?_) m9_64_ rfl rfl (any_of HT_.out (by kernel_rfl)) (fun _ _ _ h => h) (Or.inr ⟨by rfl, rfl⟩) ?_ ?_
                    rotate_left
                    ·simp only [Act.put, s1, s2, s3, i64_w, i32_w]
                     rfl
                    refine pure_ (i := 21) (N := some 192) (v := undef) (a' := ?_) m9_65_ rfl rfl (any_of HT_.out (by kernel_rfl)) (fun _ _ _ h => h) (Or.inr ⟨by rfl, rfl⟩) ?_ ?_
                    rotate_left
                    ·simp only [Act.put, s1, s2, s3, i64_w, i32_w]
                     rfl
                    refine pure_ (i := 22) (N := some 193) (v := undef) (a' := ?_) m9_66_ rfl rfl (any_of HT_.out (by kernel_rfl)) (fun _ _ _ h => h) (Or.inr ⟨by rfl, rfl⟩) ?_ ?_
                    rotate_left
                    ·simp only [Act.put, s1, s2, s3, i64_w, i32_w]
                     rfl
                    refine pure_ (i := 23) (N := some 194) (v := undef) (a' := ?_) m9_56_ rfl rfl (any_of HT_.out (by kernel_rfl)) (fun _ _ _ h => h) (Or.inr ⟨by rfl, rfl⟩) ?_ ?_
                    rotate_left
                    ·simp only [Act.put, s1, s2, s3, i64_w, i32_w]
                     rfl
                    refine pure_ (i := 24) (N := some 195) (v := undef) (a' := ?_) m9_57_ rfl rfl (any_of HT_.out (by kernel_rfl)) (fun _ _ _ h => h) (Or.inr ⟨by rfl, rfl⟩) ?_ ?_
                    rotate_left
                    ·simp only [Act.put, s1, s2, s3, i64_w, i32_w]
                     rfl
                    refine pure_ (i := 25) (N := some 196) (v := undef) (a' := ?_) m9_58_ rfl rfl (any_of HT_.out (by kernel_rfl)) (fun _ _ _ h => h) (Or.inr ⟨by rfl, rfl⟩) ?_ ?_
                    rotate_left
                    ·simp only [Act.put, s1, s2, s3, i64_w, i32_w]
                     rfl
                    refine pure_ (i := 26) (N := some 197) (v := undef) (a' := ?_) m9_59_ rfl rfl (any_of HT_.out (by kernel_rfl)) (fun _ _ _ h => h) (Or.inr ⟨by rfl, rfl⟩) ?_ ?_
                    rotate_left
                    ·simp only [Act.put, s1, s2, s3, i64_w, i32_w]
                     rfl
                    refine pure_ (i := 27) (N := some 198) (v := undef) (a' := ?_) m9_60_ rfl rfl (any_of HT_.out (by kernel_rfl)) (fun _ _ _ h => h) (Or.inr ⟨by rfl, rfl⟩) ?_ ?_
                    rotate_left
                    ·simp only [Act.put, s1, s2, s3, i64_w, i32_w]
                     rfl
                    refine pu HT_.out (i := 28) (N := some 199) (v := ?_) (a' := ?_) m9_61_ rfl rfl (by kernel_rfl) (fun _ _ _ h => h) (by rfl) ?_ ?_ ?_; rotate_left; (·intro w'; go_simp; with_reducible rfl); rotate_left; (·simp only [Act.put, s1, s2, s3, i64_w, i32_w]; rfl)
                    refine done_ (done_of HT_.out (by kernel_rfl)) ?_
                    try go_wp2
                    go_ret
                    exact ⟨by first | rfl | (simp [errW_none, errW_some] <;> rfl) | (simp [*, errW_none, errW_some] <;> rfl), by repeat first | refine below_set ?_ GE359.out | refine below_set ?_ GE390.out | exact HB.out | apply below_alloc | apply pw_below_drewN | apply below_drew1⟩
                  ·replace c79 := Bool.eq_false_iff.mpr c79
                   subst c79
                   have H1 : (some false) = some r := by rw [if_neg (show ¬ (false = true) by decide)] at H; exact H
                   clear H
                   have H := H1
                   clear H1
                   obtain rfl := Option.some.inj H
                   obtain ⟨Ao132, co132, eo132⟩ := Kd.R_slice HO_3.out
                   subst eo132
                   try go_wp2_with (first | ((with_reducible refine gate_callee (f := 21) rfl ?_); refine goesL_ (some 168) rfl rfl Try.func21 (by kernel_rfl) rfl #[.slice Ao132 x11_24.length co132] rfl (by (try simp only [List.map_toArray, List.map_cons, List.map_nil]); first | done | rfl | (simp only [List.length_drop, List.length_take]; rfl)) ?_; (with_reducible refine (size_Latest.calls _ _ x11_24 t385 t386 t387 t388 t389 _ ?side1 ?side2 A77.out).mono ?_); (case side1 => repeat (first | exact (Kd.R_reads' HO_3.out).2.2 | (with_reducible refine Kd.C_alloc ?_ _) | (with_reducible refine Kd.C_drewN ?_ _) | (with_reducible refine Kd.C_drew ?_))); (case side2 => exact (Kd.R_reads' HO_3.out).2.1); rintro e w133 ⟨rfl, hb⟩; refine ⟨_, rfl, ?_⟩; replace HO_3 := Aside0.mk (Kd.R_below (by (with_reducible repeat (first | apply Kd.R_alloc | apply Kd.R_drewN | apply Kd.R_drew)); exact HO_3.out) hb); replace HO_16 := Aside0.mk (Kd.R_below (by (with_reducible repeat (first | apply Kd.R_alloc | apply Kd.R_drewN | apply Kd.R_drew)); exact HO_16.out) hb); replace BK359 := Aside0.mk (bb hb BK359.out); replace HB := Aside0.mk (below_step (by repeat first | refine below_set ?_ GE359.out | exact HB.out | apply below_alloc | apply pw_below_drewN | apply below_drew1) hb); (try clear hb); (try clear hb2); (try clear hk); (try clear hi)) | ((with_reducible refine gate_dst (N := 19) rfl ?_); (try (refine gate_guard (by rfl) ?_; dsimp only)); refine box_event ?hg (N := 19) ?hd (cs := #[.int .i64 0, .int .i64 0, .int .i64 0, .int .i64 0]) (t := 48) ?hr ?_; (case hd => rfl); (case hg => rfl); (case hr => first | (go_simp; done) | (go_simp; rfl)); intro gb390 hg w134 hbox hb; have BK390 := Aside0.mk (hbox); have GW390 := Aside0.mk ((by rw [hg]; exact (below_size (by repeat first | refine below_set ?_ GE359.out | exact HB.out | apply below_alloc | apply pw_below_drewN | apply below_drew1)) : w.heap.size ≤ gb390)); have GE390 := GW390; have NB359_390 := Aside0.mk ((by rw [hg]; exact lt1 BK359.out : gb359 ≠ gb390)); have NB390_359 := Aside0.mk ((by rw [hg]; exact gt1 BK359.out : gb390 ≠ gb359)); replace HO_3 := Aside0.mk (Kd.R_below (Kd.R_elderB (by (with_reducible repeat (first | apply Kd.R_alloc | apply Kd.R_drewN | apply Kd.R_drew)); exact HO_3.out) gb390 (Nat.le_of_eq hg.symm)) hb); replace HO_16 := Aside0.mk (Kd.R_below (Kd.R_elderB (by (with_reducible repeat (first | apply Kd.R_alloc | apply Kd.R_drewN | apply Kd.R_drew)); exact HO_16.out) gb390 (Nat.le_of_eq hg.symm)) hb); replace BK359 := Aside0.mk (bb hb BK359.out); replace HB := Aside0.mk (below_step (by repeat first | refine below_set ?_ GE359.out | exact HB.out | apply below_alloc | apply pw_below_drewN | apply below_drew1) hb); clear hb hbox hg; have hnb135 := NB390_359.out; have hnc135 := NB359_390.out; obtain ⟨hcz136_0, hcz136_1, hcz136_2, hcz136_3, hfz136_0, hfz136_1, hfz136_2, hfz136_3⟩ := cz4 BK390.out))
                   have n0_ : Aside0 (Kd.R k48 48 ((((w134.setCell ⟨gb390, 0, none⟩ (.int .i64 t385)).setCell ⟨gb390, 1, none⟩ (.int .i64 t386)).setCell ⟨gb390, 2, none⟩ (.int .i64 t387)).setCell ⟨gb390, 3, none⟩ (.int .i64 t388)) w.heap.size (fun k_ => some k_ ≠ (u16 : Value).ownBlock ∧ k_ ≠ gb390) (.slice Ao132 x11_24.length co132) x11_24) := ⟨by (with_reducible repeat (first | apply Kd.R_alloc | apply Kd.R_drewN | apply Kd.R_drew)); exact Kd.R_mono (Kd.R_far (p := ⟨gb390, 3, none⟩) (Kd.R_far (p := ⟨gb390, 2, none⟩) (Kd.R_far (p := ⟨gb390, 1, none⟩) (Kd.R_far (p := ⟨gb390, 0, none⟩) (Kd.R_mono HO_3.out (fun k_ hk => (⟨hk, hk.2⟩ : _ ∧ k_ ≠ gb390))) (fun _ hk => hk.2) (.int .i64 t385)) (fun _ hk => hk.2) (.int .i64 t386)) (fun _ hk => hk.2) (.int .i64 t387)) (fun _ hk => hk.2) (.int .i64 t388)) (fun _ hk => ⟨hk.1.1, hk.1.2⟩)⟩
                   have n1_ : Aside0 (Kd.R k48 48 ((((w134.setCell ⟨gb390, 0, none⟩ (.int .i64 t385)).setCell ⟨gb390, 1, none⟩ (.int .i64 t386)).setCell ⟨gb390, 2, none⟩ (.int .i64 t387)).setCell ⟨gb390, 3, none⟩ (.int .i64 t388)) w.heap.size (fun k_ => some k_ ≠ (.slice Ao132 x11_24.length co132 : Value).ownBlock ∧ k_ ≠ gb390) u16 x16_71) := ⟨by (with_reducible repeat (first | apply Kd.R_alloc | apply Kd.R_drewN | apply Kd.R_drew)); exact Kd.R_mono (Kd.R_far (p := ⟨gb390, 3, none⟩) (Kd.R_far (p := ⟨gb390, 2, none⟩) (Kd.R_far (p := ⟨gb390, 1, none⟩) (Kd.R_far (p := ⟨gb390, 0, none⟩) (Kd.R_mono HO_16.out (fun k_ hk => (⟨hk, hk.2⟩ : _ ∧ k_ ≠ gb390))) (fun _ hk => hk.2) (.int .i64 t385)) (fun _ hk => hk.2) (.int .i64 t386)) (fun _ hk => hk.2) (.int .i64 t387)) (fun _ hk => hk.2) (.int .i64 t388)) (fun _ hk => ⟨hk.1.1, hk.1.2⟩)⟩
                   have n2_ : Aside0 (((((w134.setCell ⟨gb390, 0, none⟩ (.int .i64 t385)).setCell ⟨gb390, 1, none⟩ (.int .i64 t386)).setCell ⟨gb390, 2, none⟩ (.int .i64 t387)).setCell ⟨gb390, 3, none⟩ (.int .i64 t388)).heap[gb359]? = some (.cells #[.int .i64 ((rd_T71 l0 x23_1).f0), .int .i64 ((rd_T71 l0 x23_1).f1), .int .i64 ((rd_T71 l0 x23_1).f2), .int .i64 ((rd_T71 l0 x23_1).f3), .int .i64 ((rd_T71 l0 x23_1).f4)] 71 (0, 0))) := ⟨by exact (far4 NB359_390.out BK359.out)⟩
                   have n3_ : Aside0 (((((w134.setCell ⟨gb390, 0, none⟩ (.int .i64 t385)).setCell ⟨gb390, 1, none⟩ (.int .i64 t386)).setCell ⟨gb390, 2, none⟩ (.int .i64 t387)).setCell ⟨gb390, 3, none⟩ (.int .i64 t388)).heap[gb390]? = some (.cells #[.int .i64 t385, .int .i64 t386, .int .i64 t387, .int .i64 t388] 48 (0, 0))) := ⟨by exact (put4 BK390.out)⟩
                   have n4_ : Aside0 (Below w.heap.size w ((((w134.setCell ⟨gb390, 0, none⟩ (.int .i64 t385)).setCell ⟨gb390, 1, none⟩ (.int .i64 t386)).setCell ⟨gb390, 2, none⟩ (.int .i64 t387)).setCell ⟨gb390, 3, none⟩ (.int .i64 t388))) := ⟨by repeat first | refine below_set ?_ GE359.out | refine below_set ?_ GE390.out | exact HB.out | apply below_alloc | apply pw_below_drewN | apply below_drew1⟩
                   (try clear HO_3)
                   (try clear HO_16)
                   (try clear BK359)
                   (try clear BK390)
                   (try clear HB)
                   generalize ((((w134.setCell ⟨gb390, 0, none⟩ (.int .i64 t385)).setCell ⟨gb390, 1, none⟩ (.int .i64 t386)).setCell ⟨gb390, 2, none⟩ (.int .i64 t387)).setCell ⟨gb390, 3, none⟩ (.int .i64 t388)) = w137 at n0_ n1_ n2_ n3_ n4_ ⊢
                   have HO_3 := n0_
                   have HO_16 := n1_
                   have BK359 := n2_
                   have BK390 := n3_
                   have HB := n4_
                   clear n0_ n1_ n2_ n3_ n4_
                   replace HO_3 := Aside0.mk (Kd.R_drew HO_3.out); replace HO_16 := Aside0.mk (Kd.R_drew HO_16.out); replace BK359 := Aside0.mk (blk_drew BK359.out); replace BK390 := Aside0.mk (blk_drew BK390.out); replace HB := Aside0.mk (below_drew1 HB.out)
                   refine start_ (n := 29) (S := fun w' => True) (ds := []) #[false, false, false, false, false, false, false, false, false, false, false, false, false, false, false, false, false, false, false, false, false, false, false, false, false, false, false, false, false] (by kernel_rfl) rfl rfl trivial (fun hHeld => ?_); refine with_tabW backseatlaw16_SizeActive.tab46 backseatlaw16_SizeActive.bits46 (fun HT_ HW_ => ?_)
                   generalize w137.drew = w138 at HO_3 HO_16 BK359 BK390 HB hHeld ⊢
                   refine pu HT_.out (i := 0) (N := some 171) (v := ?_) (a' := ?_) m9_33_ rfl rfl (by kernel_rfl) (fun _ _ _ h => h) (by rfl) ?_ ?_ ?_; rotate_left; (·intro w'; go_simp; with_reducible rfl); rotate_left; (·simp only [Act.put, s1, s2, s3, i64_w, i32_w]; rfl)
                   refine one_ (i := 1) (N := some 172) m9_34_ rfl rfl (one_of HT_.out (by kernel_rfl)) (by decide) (fun K hK => ?_)
                   refine goes_ Try.func32 (by kernel_rfl) rfl #[.slice Ao132 x11_24.length co132] (by rfl) rfl rfl (by (try simp only [List.map_toArray, List.map_cons, List.map_nil]); first | done | rfl | (simp only [List.length_drop, List.length_take]; rfl)) ?_
                   with_reducible refine (size_Right.calls kj71 _ _ x11_24 false _ ?side1 ?side2 A78.out).mono ?_
                   (case side1 => repeat (first | exact (Kd.R_reads' HO_3.out).2.2 | (with_reducible refine Kd.C_alloc ?_ _) | (with_reducible refine Kd.C_drewN ?_ _) | (with_reducible refine Kd.C_drew ?_)))
                   (case side2 => exact (Kd.R_reads' HO_3.out).2.1)
                   rintro e w139 ⟨rfl, hb⟩
                   refine ⟨_, rfl, ?_⟩
                   replace HO_3 := Aside0.mk (Kd.R_below (by (with_reducible repeat (first | apply Kd.R_alloc | apply Kd.R_drewN | apply Kd.R_drew)); exact HO_3.out) hb); replace HO_16 := Aside0.mk (Kd.R_below (by (with_reducible repeat (first | apply Kd.R_alloc | apply Kd.R_drewN | apply Kd.R_drew)); exact HO_16.out) hb); replace BK359 := Aside0.mk (bb hb BK359.out); replace BK390 := Aside0.mk (bb hb BK390.out); replace HB := Aside0.mk (below_step (by repeat first | refine below_set ?_ GE359.out | refine below_set ?_ GE390.out | exact HB.out | apply below_alloc | apply pw_below_drewN | apply below_drew1) hb)
                   (try clear hb)
                   (try clear hb2)
                   (try clear hk)
                   (try clear hi)
                   refine hK.out _ _ trivial (fun hHeld => ?_)
                   clear hK K
                   refine norm_ (a' := ?_) ?_ ?_
                   rotate_left
                   ·show Act.put _ (some 172) _ = _
                    simp only [Act.put, s1, s2, s3, i64_w, i32_w]
                    rfl
                   refine pu HT_.out (i := 2) (N := some 173) (v := ?_) (a' := ?_) m9_35_ rfl rfl (by kernel_rfl) (fun _ _ _ h => h) (by rfl) ?_ ?_ ?_; rotate_left; (·intro w'; go_simp; with_reducible rfl); rotate_left; (·simp only [Act.put, s1, s2, s3, i64_w, i32_w]; rfl)
                   refine pu HT_.out (i := 3) (N := some 174) (v := ?_) (a' := ?_) m9_36_ rfl rfl (by kernel_rfl) (fun _ _ _ h => h) (by rfl) ?_ ?_ ?_; rotate_left; (·intro w'; go_simp; with_reducible rfl); rotate_left; (·simp only [Act.put, s1, s2, s3, i64_w, i32_w]; rfl)
                   refine pure_ (i := 4) (N := some 175) (v := undef) (a' := ?_) m9_37_ rfl rfl (any_of HT_.out (by kernel_rfl)) (fun _ _ _ h => h) (Or.inr ⟨by rfl, rfl⟩) ?_ ?_
                   rotate_left
                   ·simp only [Act.put, s1, s2, s3, i64_w, i32_w]
                    rfl
                   refine pure_ (i := 5) (N := some 176) (v := undef) (a' := ?_) m9_38_ rfl rfl (any_of HT_.out (by kernel_rfl)) (fun _ _ _ h => h) (Or.inr ⟨by rfl, rfl⟩) ?_ ?_
                   rotate_left
                   ·simp only [Act.put, s1, s2, s3, i64_w, i32_w]
                    rfl
                   refine pure_ (i := 6) (N := some 177) (v := undef) (a' := ?_) m9_39_ rfl rfl (any_of HT_.out (by kernel_rfl)) (fun _ _ _ h => h) (Or.inr ⟨by rfl, rfl⟩) ?_ ?_
                   rotate_left
                   ·simp only [Act.put, s1, s2, s3, i64_w, i32_w]
                    rfl
                   refine pure_ (i := 7) (N := some 178) (v := undef) (a' := ?_) m9_40_ rfl rfl (any_of HT_.out (by kernel_rfl)) (fun _ _ _ h => h) (Or.inr ⟨by rfl, rfl⟩) ?_ ?_
                   rotate_left
                   ·simp only [Act.put, s1, s2, s3, i64_w, i32_w]
                    rfl
                   refine pure_ (i := 8) (N := some 179) (v := undef) (a' := ?_) m9_41_ rfl rfl (any_of HT_.out (by kernel_rfl)) (fun _ _ _ h => h) (Or.inr ⟨by rfl, rfl⟩) ?_ ?_
                   rotate_left
                   ·simp only [Act.put, s1, s2, s3, i64_w, i32_w]
                    rfl
                   refine pu HT_.out (i := 9) (N := some 180) (v := ?_) (a' := ?_) m9_42_ rfl rfl (by kernel_rfl) (fun _ _ _ h => h) (by rfl) ?_ ?_ ?_; rotate_left; (·intro w'; go_simp; with_reducible rfl); rotate_left; (·simp only [Act.put, s1, s2, s3, i64_w, i32_w]; rfl)
                   refine pu HT_.out (i := 10) (N := some 181) (v := ?_) (a' := ?_) m9_43_ rfl rfl (by kernel_rfl) (fun _ _ _ h => h) (by rfl) ?_ ?_ ?_; rotate_left; (·intro w'; go_simp; with_reducible rfl); rotate_left; (·simp only [Act.put, s1, s2, s3, i64_w, i32_w]; rfl)
                   refine pure_ (i := 11) (N := some 182) (v := undef) (a' := ?_) m9_44_ rfl rfl (any_of HT_.out (by kernel_rfl)) (fun _ _ _ h => h) (Or.inr ⟨by rfl, rfl⟩) ?_ ?_
                   rotate_left
                   ·simp only [Act.put, s1, s2, s3, i64_w, i32_w]
                    rfl
                   refine pure_ (i := 12) (N := some 183) (v := undef) (a' := ?_) m9_45_ rfl rfl (any_of HT_.out (by kernel_rfl)) (fun _ _ _ h => h) (Or.inr ⟨by rfl, rfl⟩) ?_ ?_
                   rotate_left
                   ·simp only [Act.put, s1, s2, s3, i64_w, i32_w]
                    rfl
                   refine pure_ (i := 13) (N := some 184) (v := undef) (a' := ?_) m9_46_ rfl rfl (any_of HT_.out (by kernel_rfl)) (fun _ _ _ h => h) (Or.inr ⟨by rfl, rfl⟩) ?_ ?_
                   rotate_left
                   ·simp only [Act.put, s1, s2, s3, i64_w, i32_w]
                    rfl
                   refine pure_ (i := 14) (N := some 185) (v := undef) (a' := ?_) m9_47_ rfl rfl (any_of HT_.out (by kernel_rfl)) (fun _ _ _ h => h) (Or.inr ⟨by rfl, rfl⟩) ?_ ?_
                   rotate_left
                   ·simp only [Act.put, s1, s2, s3, i64_w, i32_w]
                    rfl
                   refine pure_ (i := 15) (N := some 186) (v := undef) (a' := ?_) m9_48_ rfl rfl (any_of HT_.out (by kernel_rfl)) (fun _ _ _ h => h) (Or.inr ⟨by rfl, rfl⟩) ?_ ?_
                   rotate_left
                   ·simp only [Act.put, s1, s2, s3, i64_w, i32_w]
                    rfl
                   refine pure_ (i := 16) (N := some 187) (v := undef) (a' := ?_) m9_49_ rfl rfl (any_of HT_.out (by kernel_rfl)) (fun _ _ _ h => h) (Or.inr ⟨by rfl, rfl⟩) ?_ ?_
                   rotate_left
                   ·simp only [Act.put, s1, s2, s3, i64_w, i32_w]
                    rfl
                   refine pure_ (i := 17) (N := some 188) (v := undef) (a' := ?_) m9_50_ rfl rfl (any_of HT_.out (by kernel_rfl)) (fun _ _ _ h => h) (Or.inr ⟨by rfl, rfl⟩) ?_ ?_
                   rotate_left
                   ·simp only [Act.put, s1, s2, s3, i64_w, i32_w]
                    rfl
                   refine pure_ (i := 18) (N := some 189) (v := undef) (a' := ?_) m9_62_ rfl rfl (any_of HT_.out (by kernel_rfl)) (fun _ _ _ h => h) (Or.inr ⟨by rfl, rfl⟩) ?_ ?_
                   rotate_left
                   ·simp only [Act.put, s1, s2, s3, i64_w, i32_w]
                    rfl
                   refine pure_ (i := 19) (N := some 190) (v := undef) (a' := ?_) m9_63_ rfl rfl (any_of HT_.out (by kernel_rfl)) (fun _ _ _ h => h) (Or.inr ⟨by rfl, rfl⟩) ?_ ?_
                   rotate_left
                   ·simp only [Act.put, s1, s2, s3, i64_w, i32_w]
                    rfl
                   refine pure_ (i := 20) (N := some 191) (v := undef) (a' := ?_) m9_64_ rfl rfl (any_of HT_.out (by kernel_rfl)) (fun _ _ _ h => h) (Or.inr ⟨by rfl, rfl⟩) ?_ ?_
                   rotate_left
                   ·simp only [Act.put, s1, s2, s3, i64_w, i32_w]
                    rfl
                   refine pure_ (i := 21) (N := some 192) (v := undef) (a' := ?_) m9_65_ rfl rfl (any_of HT_.out (by kernel_rfl)) (fun _ _ _ h => h) (Or.inr ⟨by rfl, rfl⟩) ?_ ?_
                   rotate_left
                   ·simp only [Act.put, s1, s2, s3, i64_w, i32_w]
                    rfl
                   refine pure_ (i := 22) (N := some 193) (v := undef) (a' := ?_) m9_66_ rfl rfl (any_of HT_.out (by kernel_rfl)) (fun _ _ _ h => h) (Or.inr ⟨by rfl, rfl⟩) ?_ ?_
                   rotate_left
                   ·simp only [Act.put, s1, s2, s3, i64_w, i32_w]
                    rfl
                   refine pure_ (i := 23) (N := some 194) (v := undef) (a' := ?_) m9_56_ rfl rfl (any_of HT_.out (by kernel_rfl)) (fun _ _ _ h => h) (Or.inr ⟨by rfl, rfl⟩) ?_ ?_
                   rotate_left
                   ·simp only [Act.put, s1, s2, s3, i64_w, i32_w]
                    rfl
                   refine pure_ (i := 24) (N := some 195) (v := undef) (a' := ?_) m9_57_ rfl rfl (any_of HT_.out (by kernel_rfl)) (fun _ _ _ h => h) (Or.inr ⟨by rfl, rfl⟩) ?_ ?_
                   rotate_left
                   ·simp only [Act.put, s1, s2, s3, i64_w, i32_w]
                    rfl
                   refine pure_ (i := 25) (N := some 196) (v := undef) (a' := ?_) m9_58_ rfl rfl (any_of HT_.out (by kernel_rfl)) (fun _ _ _ h => h) (Or.inr ⟨by rfl, rfl⟩) ?_ ?_
                   rotate_left
                   ·simp only [Act.put, s1, s2, s3, i64_w, i32_w]
                    rfl
                   refine pure_ (i := 26) (N := some 197) (v := undef) (a' := ?_) m9_59_ rfl rfl (any_of HT_.out (by kernel_rfl)) (fun _ _ _ h => h) (Or.inr ⟨by rfl, rfl⟩) ?_ ?_
                   rotate_left
                   ·simp only [Act.put, s1, s2, s3, i64_w, i32_w]
                    rfl
                   refine pure_ (i := 27) (N := some 198) (v := undef) (a' := ?_) m9_60_ rfl rfl (any_of HT_.out (by kernel_rfl)) (fun _ _ _ h => h) (Or.inr ⟨by rfl, rfl⟩) ?_ ?_
                   rotate_left
                   ·simp only [Act.put, s1, s2, s3, i64_w, i32_w]
                    rfl
                   refine pu HT_.out (i := 28) (N := some 199) (v := ?_) (a' := ?_) m9_61_ rfl rfl (by kernel_rfl) (fun _ _ _ h => h) (by rfl) ?_ ?_ ?_; rotate_left; (·intro w'; go_simp; with_reducible rfl); rotate_left; (·simp only [Act.put, s1, s2, s3, i64_w, i32_w]; rfl)
                   refine done_ (done_of HT_.out (by kernel_rfl)) ?_
                   try go_wp2
                   go_ret
                   exact ⟨by first | rfl | (simp [errW_none, errW_some] <;> rfl) | (simp [*, errW_none, errW_some] <;> rfl), by repeat first | refine below_set ?_ GE359.out | refine below_set ?_ GE390.out | exact HB.out | apply below_alloc | apply pw_below_drewN | apply below_drew1⟩
            ·rw [if_neg c59] at H
             have c59b0 : (x12_24 == 0) = false := beq_eq_false_iff_ne.mpr c59
             have c59b1 : (x12_24 != 0) = true := bne_iff_ne.mpr c59
             have H' := Aside0.mk H
             clear H
             go_wp2
             go_roundg kj24
             case measure => have := HK1.out; have := HK2.out; have := HJ24.out; omega
             case rel => exact ⟨(x3_1), (x4_1), ((wrap64 (x5_1 + (wrap64 (1 + (Int.tmod (wrap64 ((Int.tmod ((rd_T71 l0 x23_1).f4) 9) + 9)) 9)))))), (wrap64 (x23_1 + 1)), (by first | rfl | (simp; done) | (simp [*]; done)), (by first | rfl | (simp; done) | (simp [*]; done)), H', ⟨by have := HK1.out; have := HK2.out; have := HJ24.out; omega⟩, ⟨by (with_reducible repeat (first | apply Kd.R_alloc | apply Kd.R_drewN | apply Kd.R_drew)); exact Kd.R_mono HO_3.out (fun _ hk => hk.1)⟩, ⟨by (with_reducible repeat (first | apply Kd.R_alloc | apply Kd.R_drewN | apply Kd.R_drew)); exact Kd.R_mono HO_4.out (fun _ hk => hk.1)⟩, ⟨by repeat first | refine below_set ?_ GE359.out | exact HB.out | apply below_alloc | apply pw_below_drewN | apply below_drew1⟩⟩
     ·rw [if_neg c4] at H
      exact absurd H (by simp)
    ·rw [if_neg c3] at H
     exact absurd H (by simp)
   ·rw [if_neg c2] at H
    have c2b0 : decide (x23_1 < (l0.length : Int)) = false := decide_eq_false c2
    clear c2
    replace H := Option.bind_eq_some_iff.mp H
    obtain ⟨t357, A1400, H⟩ := H
    replace H : (some t357) = some r := H
    have A140 := Aside0.mk A1400
    clear A1400
    obtain rfl := Option.some.inj H
    go_wp2_with (first | ((with_reducible refine gate_callee (f := 24) rfl ?_); refine goesL_ (some 201) rfl rfl Try.func24 (by kernel_rfl) rfl #[] rfl (by (try simp only [List.map_toArray, List.map_cons, List.map_nil]); first | done | rfl | (simp only [List.length_drop, List.length_take]; rfl)) ?_; (with_reducible refine (backseatlaw16_alive.calls k1  t357 _ A140.out).mono ?_); rintro e w141 ⟨rfl, hb⟩; refine ⟨_, rfl, ?_⟩; replace HO_3 := Aside0.mk (Kd.R_below (by (with_reducible repeat (first | apply Kd.R_alloc | apply Kd.R_drewN | apply Kd.R_drew)); exact HO_3.out) hb); replace HO_4 := Aside0.mk (Kd.R_below (by (with_reducible repeat (first | apply Kd.R_alloc | apply Kd.R_drewN | apply Kd.R_drew)); exact HO_4.out) hb); replace HB := Aside0.mk (below_step (by first | exact HB.out | exact pw_below_drewN HB.out _ | exact below_drew1 HB.out) hb); (try clear hb); (try clear hb2); (try clear hk); (try clear hi)))
    go_ret
    exact ⟨by first | rfl | (simp [errW_none, errW_some] <;> rfl) | (simp [*, errW_none, errW_some] <;> rfl), by first | exact HB.out | exact pw_below_drewN HB.out _ | exact below_drew1 HB.out⟩
end Go.Proofs.Ytplngfammfdemaa.P
