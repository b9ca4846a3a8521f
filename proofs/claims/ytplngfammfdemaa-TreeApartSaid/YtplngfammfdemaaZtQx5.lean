-- A copy of the text YtplngfammfdemaaQx5 with what this claim does not reach left out (prune.py, a program of this project).
import Derived.Test.YtplngfammfdemaaZtGMul
import Derived.Test.YtplngfammfdemaaZtQx14
import Derived.Test.YtplngfammfdemaaZtGLayFn
namespace Go.Proofs.Ytplngfammfdemaa.Q
open Go.RowKit Go.Proofs.Ytplngfammfdemaa Go.Proofs.YtplngfammfdemaaW.PrintWords Go.Proofs.YtplngfammfdemaaW.PrintLast Go.Proofs.YtplngfammfdemaaW.PrintMore
attribute [local go_sem] max2_int min2_int max_two min_two max_three min_three max_four min_four   -- for this text's walks alone
set_option linter.unusedVariables false
set_option linter.unusedSimpArgs false
def m89_0_ : Array Bool := mk_ 16 1
def m89_1_ : Array Bool := mk_ 16 5
def m89_2_ : Array Bool := mk_ 16 13
def m89_3_ : Array Bool := mk_ 16 29
def m89_4_ : Array Bool := mk_ 16 61
def m89_5_ : Array Bool := mk_ 16 317
def m89_6_ : Array Bool := mk_ 16 319
def m89_7_ : Array Bool := mk_ 16 383
def m89_8_ : Array Bool := mk_ 16 16383
def m89_9_ : Array Bool := mk_ 16 511
def m89_10_ : Array Bool := mk_ 16 8575
def m89_11_ : Array Bool := mk_ 16 1023
def m89_12_ : Array Bool := mk_ 16 8703
def m89_13_ : Array Bool := mk_ 16 2047
def m89_14_ : Array Bool := mk_ 16 4095
def m89_15_ : Array Bool := mk_ 16 8191
def m89_16_ : Array Bool := mk_ 16 9215
def m89_17_ : Array Bool := mk_ 16 10239
def m89_18_ : Array Bool := mk_ 16 12287
def m89_19_ : Array Bool := mk_ 16 32767
def m89_20_ : Array Bool := mk_ 16 65535
def preset_sharedG.l0 (Y : LayFn) : Nat → Int → List Int → List (List Int) → Int → Int → Int → Int → Int → Int → Int → List (S31) → Option (Int × Int × Int × (List (S31)) × Bool)
 | 0, _, _, _, _, _, _, _, _, _, _, _ => none
 | k + 1, x1, x10, x42, x43, x44, x255000, x255001, x270000, x270001, x270002, x270003 => if x44 < x43 then (if 0 ≤ x44 then (if x44 < (x42.length : Int) then (if x44 < (x10.length : Int) then ((preset_size_with.f x255000 x255001 x1 (rd x10 x44)).bind fun bt272 => ((Y.F k bt272.1 bt272.2 (rd_L2 x42 x44)).bind fun bt274 => (if bt274.2.2.2.2 = true then (if x270003.length < 2932031007402 then (preset_sharedG.l0 Y k x1 x10 x42 x43 (wrap64 (x44 + 1)) x255000 x255001 x270000 x270001 x270002 (x270003 ++ [(⟨bt274.1, bt274.2.1, rd x10 x44, bt274.2.2.2.1⟩ : S31)])) else (none)) else (some (0, 0, 0, ([] : List (S31)), false))))) else (none)) else (none)) else (none)) else (some (x270000, x270001, x270002, x270003, true))
def preset_sharedG.f (Y : LayFn) (k : Nat) (a0_0 : Int) (a0_1 : Int) (a1 : Int) (l2 : List (List Int)) (a3 : Int) : Option (Int × Int × Int × (List (S31)) × Bool) := if (l2.length : Int) = 1 then (if 0 < (l2.length : Int) then ((Y.F k a0_0 a0_1 (rd_L2 l2 0)).bind fun bt257 => (some (bt257.1, bt257.2.1, bt257.2.2.1, bt257.2.2.2.1, bt257.2.2.2.2))) else (none)) else ((preset_size_along.f a0_0 a0_1 a1).bind fun t264 => ((preset_Even.f k t264 (l2.length : Int)).bind fun bt265 => (if bt265.2 = 0 then (preset_sharedG.l0 Y k a1 bt265.1 l2 (l2.length : Int) 0 a0_0 a0_1 a1 0 0 ([] : List (S31))) else (some (0, 0, 0, ([] : List (S31)), false)))))
theorem preset_sharedG.mono_l (Y : LayFn) : ∀ k, (∀ y0 y1 y2 y3 y4 y5 y6 y7 y8 y9 y10, LeO (preset_sharedG.l0 Y k y0 y1 y2 y3 y4 y5 y6 y7 y8 y9 y10) (preset_sharedG.l0 Y (k + 1) y0 y1 y2 y3 y4 y5 y6 y7 y8 y9 y10))
 | 0 => fun _ _ _ _ _ _ _ _ _ _ _ r h => by simp [preset_sharedG.l0] at h
 | k + 1 => by
  have ih0 := preset_sharedG.mono_l Y k
  ·intro y0 y1 y2 y3 y4 y5 y6 y7 y8 y9 y10
   unfold preset_sharedG.l0
   repeat' first
   | (with_reducible exact ih0 _ _ _ _ _ _ _ _ _ _ _)
   | (with_reducible exact preset_Even.mono _ _ _)
   | (with_reducible exact Y.mono _ _ _ _)
   | (with_reducible exact LeO.refl _)
   | (with_reducible exact LeO.none _)
   | (with_reducible refine LeO.ite ?_ ?_)
   | (with_reducible refine LeO.bind ?_ (fun _ => ?_))
   | exact ih0 _ _ _ _ _ _ _ _ _ _ _
   | exact preset_Even.mono _ _ _
   | exact Y.mono _ _ _ _
   | exact LeO.none _
   | refine LeO.ite ?_ ?_
   | refine LeO.bind ?_ (fun _ => ?_)
theorem preset_sharedG.mono (Y : LayFn) : ∀ a0 a1 a2 a3 a4 k, LeO (preset_sharedG.f Y k a0 a1 a2 a3 a4) (preset_sharedG.f Y (k + 1) a0 a1 a2 a3 a4) := by
 intro a0 a1 a2 a3 a4 k
 have ih0 := preset_sharedG.mono_l Y k
 unfold preset_sharedG.f
 repeat' first
  | (with_reducible exact ih0 _ _ _ _ _ _ _ _ _ _ _)
  | (with_reducible exact preset_Even.mono _ _ _)
  | (with_reducible exact Y.mono _ _ _ _)
  | (with_reducible exact LeO.refl _)
  | (with_reducible exact LeO.none _)
  | (with_reducible refine LeO.ite ?_ ?_)
  | (with_reducible refine LeO.bind ?_ (fun _ => ?_))
  | exact ih0 _ _ _ _ _ _ _ _ _ _ _
  | exact preset_Even.mono _ _ _
  | exact Y.mono _ _ _ _
  | exact LeO.none _
  | refine LeO.ite ?_ ?_
  | refine LeO.bind ?_ (fun _ => ?_)
def preset_sharedG.T2 : Bool × List (List Nat × List Nat) := (true, [([], []), ([], []), ([], []), ([2], [2]), ([3], [3]), ([0, 1, 4], [0, 1, 4]), ([5], [5]), ([5], [5]), ([6, 5, 0, 1, 2, 3, 4, 5, 6, 7], [6]), ([7, 8, 0, 1, 2, 3, 4, 5, 6, 7, 8], [7])])
def preset_sharedG.B2 : List Nat := [0, 0, 0, 4, 12, 31, 63, 63, 255, 511]
theorem preset_sharedG.tab2 : rtab .any (opsOf Try.f89 2) = preset_sharedG.T2 := by kernel_rfl
theorem preset_sharedG.bits2 : waitsOk preset_sharedG.T2.2 preset_sharedG.B2 = true := by kernel_rfl
def preset_sharedG.T10 : Bool × List (List Nat × List Nat) := (true, [([], []), ([], []), ([], []), ([], []), ([], []), ([3, 4], [3, 4]), ([5], [5]), ([1, 2, 6], [1, 2, 6]), ([], []), ([0, 7, 8, 7], [0, 7, 8]), ([9], [9]), ([10], [10]), ([10], [10]), ([], []), ([13, 11, 9, 0, 1, 2, 3, 4, 5, 6, 7, 8, 9, 10, 11, 13], [11, 13]), ([12, 14, 0, 1, 2, 3, 4, 5, 6, 7, 8, 9, 10, 11, 12, 13, 14], [12])])
def preset_sharedG.B10 : List Nat := [0, 0, 0, 0, 0, 24, 56, 126, 0, 511, 1023, 2047, 2047, 0, 12287, 32767]
theorem preset_sharedG.tab10 : rtab .any (opsOf Try.f89 10) = preset_sharedG.T10 := by kernel_rfl
theorem preset_sharedG.bits10 : waitsOk preset_sharedG.T10.2 preset_sharedG.B10 = true := by kernel_rfl
set_option maxHeartbeats 8000000 in
set_option maxRecDepth 100000 in
theorem preset_sharedG.calls (Y : LayFn) (k : Nat) (a0_0 : Int) (a0_1 : Int) (a1 : Int) (A2 : Option Addr) (c2 : Nat) (l2 : List (List Int)) (a3 : Int) (r1 : Int) (r2 : Int) (r3 : Int) (r4 : List (S31)) (r5 : Bool) (w : World) (hr2 : Kd.C (Kd.slice 3 (Kd.int .i64)) w A2 l2.length l2) (hc2 : l2.length ≤ c2) (h : preset_sharedG.f Y k a0_0 a0_1 a1 l2 a3 = some (r1, r2, r3, r4, r5)) :
 Calls Try.prog 89 #[.agg #[.int .i64 a0_0, .int .i64 a0_1], .int .i64 a1, .slice A2 l2.length c2, .func (.func Y.f) #[] #[]] w fun e w' => ∃ v3_ : Value, e = .returned (.tuple #[.agg #[.int .i64 r1, .int .i64 r2, .int .i64 r3, v3_], .bool r5]) ∧ Kd.R k31 31 w' w.heap.size (fun _ => True) v3_ r4 ∧ Below w.heap.size w w' := by
 have hu83 := Try.underlying83
 have hu31 := Try.underlying31
 have HR2 := zM hr2
 have HC2 := zM hc2
 clear hr2 hc2
 have HB := zM (Below.refl w.heap.size w)
 have H : (if (l2.length : Int) = 1 then (if 0 < (l2.length : Int) then ((Y.F k a0_0 a0_1 (rd_L2 l2 0)).bind fun bt257 => (some (bt257.1, bt257.2.1, bt257.2.2.1, bt257.2.2.2.1, bt257.2.2.2.2))) else (none)) else ((preset_size_along.f a0_0 a0_1 a1).bind fun t264 => ((preset_Even.f k t264 (l2.length : Int)).bind fun bt265 => (if bt265.2 = 0 then (preset_sharedG.l0 Y k a1 bt265.1 l2 (l2.length : Int) 0 a0_0 a0_1 a1 0 0 ([] : List (S31))) else (some (0, 0, 0, ([] : List (S31)), false)))))) = some (r1, r2, r3, r4, r5) := h
 clear h
 by_cases c5 : (l2.length : Int) = 1
 ·rw [if_pos c5] at H
  have c5b0 : ((l2.length : Int) == 1) = true := beq_iff_eq.mpr c5
  have c5b1 : ((l2.length : Int) != 1) = false := bne_eq_false_iff_eq.mpr c5
  clear c5
  by_cases c6 : 0 < (l2.length : Int)
  ·rw [if_pos c6] at H
   have c6b0 : decide (0 < (l2.length : Int)) = true := decide_eq_true c6
   have c6b1 : decide (0 < l2.length) = true := decide_eq_true (by omega)
   clear c6
   replace H := Option.bind_eq_some_iff.mp H
   obtain ⟨⟨t257, t258, t259, t260, t263⟩, A70, H⟩ := H
   replace H : (some (t257, t258, t259, t260, t263)) = some (r1, r2, r3, r4, r5) := H
   have A7 := zM A70
   clear A70
   simp only [Option.some.injEq, Prod.mk.injEq] at H
   obtain ⟨rfl, rfl, rfl, rfl, rfl⟩ := H
   go_enter Try.func89, Try.ntmps89
   try go_wp2_with (first | ((with_reducible refine gate_dst (N := 4) rfl ?_); refine box_event ?hg (N := 4) ?hd (cs := #[.int .i64 a0_0, .int .i64 a0_1]) (t := 83) ?hr ?_; (case hd => rfl); (case hg => rfl); (case hr => first | (go_simp; done) | (go_simp; rfl)); intro gb254 hg w8 hbox hb; have BK254 := zM (hbox); have GW254 := zM ((by rw [hg]; exact (below_size (by first | exact HB.out | exact zN HB.out _ | exact zD HB.out)) : w.heap.size ≤ gb254)); have GE254 := GW254; replace HB := zM (below_step (by first | exact HB.out | exact zN HB.out _ | exact zD HB.out) hb); clear hb hbox hg) | ((with_reducible refine gate_dst (N := 8) rfl ?_); refine box_event ?hg (N := 8) ?hd (cs := #[.int .i64 0, .int .i64 0, .int .i64 0, .slice none 0 0]) (t := 31) ?hr ?_; (case hd => rfl); (case hg => rfl); (case hr => first | (go_simp; done) | (go_simp; rfl)); intro gb255 hg w9 hbox hb; have BK255 := zM (hbox); have GW255 := zM ((by rw [hg]; exact (below_size (by repeat first | refine zS ?_ GE254.out | exact HB.out | apply zA | apply zN | apply zD)) : w.heap.size ≤ gb255)); have GE255 := GW255; have NB254_255 := zM ((by rw [hg]; exact lt1 BK254.out : gb254 ≠ gb255)); have NB255_254 := zM ((by rw [hg]; exact gt1 BK254.out : gb255 ≠ gb254)); replace BK254 := zM (bb hb BK254.out); replace HB := zM (below_step (by repeat first | refine zS ?_ GE254.out | exact HB.out | apply zA | apply zN | apply zD) hb); clear hb hbox hg))
   replace BK254 := zM (blk_drew BK254.out); replace BK255 := zM (blk_drew BK255.out); replace HB := zM (zD HB.out)
   have p256 : 0 ≤ (0 : Int) := (by omega)
   have q256 : 0 < (l2.length : Int) := of_decide_eq_true (by first | (with_reducible assumption) | assumption)
   obtain ⟨ad256, A256_0, c256_0, e256, hx256_0, hl256_0, hi256_0⟩ := at_L2 HR2.out 0 p256 q256
   have hw256_0 := hx256_0
   (try rw [show ((0 : Int)).toNat = 0 from rfl] at hw256_0)
   (try rw [show 0 * 1 = 0 from rfl] at hw256_0)
   (try rw [Addr.add_zero'] at hw256_0)
   cases e256
   have qi256 : (0 < l2.length) = True := eq_true (by omega)
   (try rw [show ((0 : Int)).toNat = 0 from rfl] at hx256_0)
   (try rw [Addr.add_zero'] at hx256_0)
   replace hx256_0 := (HB.out.cell (zL w _ hx256_0)).trans hx256_0
   have HR256_0 := zM hi256_0
   have HC256_0 := zM hl256_0
   clear hi256_0 hl256_0
   replace p256 := eq_true p256
   replace q256 := eq_true q256
   refine start_ (n := 10) (S := fun w' => w'.cell? ⟨gb254, 0, none⟩ = some (.int .i64 a0_0) ∧ w'.cell? ⟨gb254, 1, none⟩ = some (.int .i64 a0_1) ∧ w'.cell? ad256 = some (.slice A256_0 (rd_L2 l2 0).length c256_0)) (ds := []) #[false, false, false, false, false, false, false, false, false, false] (by kernel_rfl) rfl rfl ⟨(blk_cell BK254.out 0).trans rfl, (blk_cell BK254.out 1).trans rfl, ((HB.out.cell (zL w _ hw256_0)).trans hw256_0)⟩ (fun hHeld => ?_); refine with_tabW preset_sharedG.tab2 preset_sharedG.bits2 (fun HT_ HW_ => ?_)
   generalize w9.drew = w10 at BK254 BK255 HB HR256_0 hx256_0 hHeld ⊢
   refine pv (v := ?_) (a' := ?_) HT_.out 0 (some 20) #[true, false, false, false, false, false, false, false, false, false] ?_ ?_ ?_; rotate_left 2; (·intro w'; go_simp; with_reducible rfl); (·simp only [Act.put, s1, s2, s3, i64_w, i32_w]; rfl)
   refine pv (v := ?_) (a' := ?_) HT_.out 2 (some 22) #[true, false, true, false, false, false, false, false, false, false] ?_ ?_ ?_; rotate_left 2; (·intro w'; go_simp; with_reducible rfl); (·simp only [Act.put, s1, s2, s3, i64_w, i32_w]; rfl)
   refine pv (v := ?_) (a' := ?_) HT_.out 3 (some 23) #[true, false, true, true, false, false, false, false, false, false] ?_ ?_ ?_; rotate_left 2; (·intro w'; go_simp; with_reducible rfl); (·simp only [Act.put, s1, s2, s3, i64_w, i32_w]; rfl)
   refine take_ (i := 1) (N := some 21) (v := ?_) (a' := ?_) #[true, true, true, true, false, false, false, false, false, false] rfl rfl (take_ofW HT_.out HW_.out (by kernel_rfl)) (fun _ _ _ h => h) (Or.inl ⟨by rfl, ?_⟩) hHeld ?_ ?_; rotate_left; (·rintro w' ⟨s0, s1, s2⟩; go_simp; with_reducible rfl); rotate_left; (·simp only [Act.put, s1, s2, s3, i64_w, i32_w]; rfl)
   refine take_ (i := 4) (N := some 24) (v := ?_) (a' := ?_) #[true, true, true, true, true, false, false, false, false, false] rfl rfl (take_ofW HT_.out HW_.out (by kernel_rfl)) (fun _ _ _ h => h) (Or.inl ⟨by rfl, ?_⟩) hHeld ?_ ?_; rotate_left; (·rintro w' ⟨s0, s1, s2⟩; go_simp; with_reducible rfl); rotate_left; (·simp only [Act.put, s1, s2, s3, i64_w, i32_w]; rfl)
   refine one_ (i := 5) (N := some 25) #[true, true, true, true, true, true, false, false, false, false] rfl rfl (one_of HT_.out (by kernel_rfl)) (by decide) (fun K hK => ?_)
   refine goesV_ Y.hf Y.hn Y.hb #[.agg #[.int .i64 a0_0, .int .i64 a0_1], .slice A256_0 (rd_L2 l2 0).length c256_0] (by rfl) rfl rfl rfl (by (try simp only [List.map_toArray, List.map_cons, List.map_nil]); first | done | rfl | (simp only [List.length_drop, List.length_take]; rfl)) ?_
   with_reducible refine (Y.calls k a0_0 a0_1 _ _ (rd_L2 l2 0) t257 t258 t259 t260 t263 _ ?side1 ?side2 A7.out).mono ?_
   (case side1 => repeat (first | exact (Kd.C_below HR256_0.out HB.out) | (with_reducible refine Kd.C_alloc ?_ _) | (with_reducible refine Kd.C_drewN ?_ _) | (with_reducible refine Kd.C_drew ?_)))
   (case side2 => exact HC256_0.out)
   rintro e w11 ⟨v261, rfl, ho0, hb⟩
   refine ⟨_, rfl, ?_⟩
   have HO262 := zM (Kd.R_lower (Kd.R_newB ho0 (g := gb255) (o := .cells #[.int .i64 0, .int .i64 0, .int .i64 0, .slice none 0 0] 31 (0, 0)) (by (with_reducible repeat (first | refine blk_drewN ?_ _ | refine blk_drew ?_ | refine blk_alloc ?_ _)); exact BK255.out)) (below_size (by repeat first | refine zS ?_ GE254.out | refine zS ?_ GE255.out | exact HB.out | apply zA | apply zN | apply zD))); replace BK254 := zM (bb hb BK254.out); replace BK255 := zM (bb hb BK255.out); replace HB := zM (below_step (by repeat first | refine zS ?_ GE254.out | refine zS ?_ GE255.out | exact HB.out | apply zA | apply zN | apply zD) hb)
   (try clear hb)
   (try clear hb2)
   (try clear hk)
   (try clear hi)
   (try clear ho0)
   obtain ⟨Ao15, co15, eo15⟩ := Kd.R_slice HO262.out
   (first | subst eo15 | (injection eo15 with f1_ f2_ f3_; have f4_ := f1_.symm; have f5_ := f3_.symm; clear f1_ f2_ f3_; subst f4_; subst f5_))
   refine hK.out _ _ ⟨(blk_cell BK254.out 0).trans rfl, (blk_cell BK254.out 1).trans rfl, ((HB.out.cell (zL w _ hw256_0)).trans hw256_0)⟩ (fun hHeld => ?_)
   clear hK K
   refine norm_ (a' := ?_) ?_ ?_
   rotate_left
   ·show Act.put _ (some 25) _ = _
    simp only [Act.put, s1, s2, s3, i64_w, i32_w]
    rfl
   refine pv (v := ?_) (a' := ?_) HT_.out 6 (some 26) #[true, true, true, true, true, true, true, false, false, false] ?_ ?_ ?_; rotate_left 2; (·intro w'; go_simp; with_reducible rfl); (·simp only [Act.put, s1, s2, s3, i64_w, i32_w]; rfl)
   refine pv (v := ?_) (a' := ?_) HT_.out 7 (some 27) #[true, true, true, true, true, true, true, true, false, false] ?_ ?_ ?_; rotate_left 2; (·intro w'; go_simp; with_reducible rfl); (·simp only [Act.put, s1, s2, s3, i64_w, i32_w]; rfl)
   refine one_ (i := 8) (N := none) #[true, true, true, true, true, true, true, true, true, false] rfl rfl (one_of HT_.out (by kernel_rfl)) (by decide) (fun K hK => ?_)
   have hs12 : w11.cell? ⟨gb255, 0, none⟩ = some (.int .i64 0) := (blk_cell BK255.out 0).trans rfl
   have hfs12 := blk_frozen BK255.out 0
   have hns12_0 := NB254_255.out
   have hms12_0 := NB255_254.out
   have hs13 : w11.cell? ⟨gb255, 1, none⟩ = some (.int .i64 0) := (blk_cell BK255.out 1).trans rfl
   have hfs13 := blk_frozen BK255.out 1
   have hns13_0 := NB254_255.out
   have hms13_0 := NB255_254.out
   have hs14 : w11.cell? ⟨gb255, 2, none⟩ = some (.int .i64 0) := (blk_cell BK255.out 2).trans rfl
   have hfs14 := blk_frozen BK255.out 2
   have hns14_0 := NB254_255.out
   have hms14_0 := NB255_254.out
   have hs16 : w11.cell? ⟨gb255, 3, none⟩ = some (.slice none 0 0) := (blk_cell BK255.out 3).trans rfl
   have hfs16 := blk_frozen BK255.out 3
   have hns16_0 := NB254_255.out
   have hms16_0 := NB255_254.out
   refine skip_ (w1 := ?_) (by rfl) rfl ?_ ?_
   rotate_left
   ·go_simp
    rfl
   refine hK.out _ _ ⟨((cell_far (p := ⟨gb255, _, none⟩) NB254_255.out _).trans (((cell_far (p := ⟨gb255, _, none⟩) NB254_255.out _).trans (((cell_far (p := ⟨gb255, _, none⟩) NB254_255.out _).trans (((cell_far (p := ⟨gb255, _, none⟩) NB254_255.out _).trans (hHeld.1)))))))), ((cell_far (p := ⟨gb255, _, none⟩) NB254_255.out _).trans (((cell_far (p := ⟨gb255, _, none⟩) NB254_255.out _).trans (((cell_far (p := ⟨gb255, _, none⟩) NB254_255.out _).trans (((cell_far (p := ⟨gb255, _, none⟩) NB254_255.out _).trans (hHeld.2.1)))))))), ((cell_far (p := ⟨gb255, _, none⟩) (by first | exact Nat.ne_of_lt (Nat.lt_of_lt_of_le (by have := zL _ _ hw256_0; first | rwa [add_block] at this | exact this) GW255.out) | (rw [add_block]; exact Nat.ne_of_lt (Nat.lt_of_lt_of_le (by have := zL _ _ hw256_0; first | rwa [add_block] at this | exact this) GW255.out)) | (show (Addr.add _ _).block ≠ _; rw [add_block]; exact Nat.ne_of_lt (Nat.lt_of_lt_of_le (by have := zL _ _ hw256_0; first | rwa [add_block] at this | exact this) GW255.out)) | (dsimp only; exact Nat.ne_of_lt (Nat.lt_of_lt_of_le (by have := zL _ _ hw256_0; first | rwa [add_block] at this | exact this) GW255.out))) _).trans (((cell_far (p := ⟨gb255, _, none⟩) (by first | exact Nat.ne_of_lt (Nat.lt_of_lt_of_le (by have := zL _ _ hw256_0; first | rwa [add_block] at this | exact this) GW255.out) | (rw [add_block]; exact Nat.ne_of_lt (Nat.lt_of_lt_of_le (by have := zL _ _ hw256_0; first | rwa [add_block] at this | exact this) GW255.out)) | (show (Addr.add _ _).block ≠ _; rw [add_block]; exact Nat.ne_of_lt (Nat.lt_of_lt_of_le (by have := zL _ _ hw256_0; first | rwa [add_block] at this | exact this) GW255.out)) | (dsimp only; exact Nat.ne_of_lt (Nat.lt_of_lt_of_le (by have := zL _ _ hw256_0; first | rwa [add_block] at this | exact this) GW255.out))) _).trans (((cell_far (p := ⟨gb255, _, none⟩) (by first | exact Nat.ne_of_lt (Nat.lt_of_lt_of_le (by have := zL _ _ hw256_0; first | rwa [add_block] at this | exact this) GW255.out) | (rw [add_block]; exact Nat.ne_of_lt (Nat.lt_of_lt_of_le (by have := zL _ _ hw256_0; first | rwa [add_block] at this | exact this) GW255.out)) | (show (Addr.add _ _).block ≠ _; rw [add_block]; exact Nat.ne_of_lt (Nat.lt_of_lt_of_le (by have := zL _ _ hw256_0; first | rwa [add_block] at this | exact this) GW255.out)) | (dsimp only; exact Nat.ne_of_lt (Nat.lt_of_lt_of_le (by have := zL _ _ hw256_0; first | rwa [add_block] at this | exact this) GW255.out))) _).trans (((cell_far (p := ⟨gb255, _, none⟩) (by first | exact Nat.ne_of_lt (Nat.lt_of_lt_of_le (by have := zL _ _ hw256_0; first | rwa [add_block] at this | exact this) GW255.out) | (rw [add_block]; exact Nat.ne_of_lt (Nat.lt_of_lt_of_le (by have := zL _ _ hw256_0; first | rwa [add_block] at this | exact this) GW255.out)) | (show (Addr.add _ _).block ≠ _; rw [add_block]; exact Nat.ne_of_lt (Nat.lt_of_lt_of_le (by have := zL _ _ hw256_0; first | rwa [add_block] at this | exact this) GW255.out)) | (dsimp only; exact Nat.ne_of_lt (Nat.lt_of_lt_of_le (by have := zL _ _ hw256_0; first | rwa [add_block] at this | exact this) GW255.out))) _).trans (hHeld.2.2))))))))⟩ (fun hHeld => ?_)
   clear hK K
   refine pv (v := ?_) (a' := ?_) HT_.out 9 (some 9) #[true, true, true, true, true, true, true, true, true, true] ?_ ?_ ?_; rotate_left 2; (·intro w'; go_simp; with_reducible rfl); (·simp only [Act.put, s1, s2, s3, i64_w, i32_w]; rfl)
   refine done_ (done_of HT_.out (by kernel_rfl)) ?_
   try go_wp2
   refine bodyPost_ret (results_ct rfl _ _ gb255 31 #[.int .i64 t257, .int .i64 t258, .int .i64 t259, .slice Ao15 t260.length co15] (0, 0) _ rfl (by exact (put4 BK255.out)) Try.underlying31 rfl (by kernel_rfl)) rfl ?_
   exact ⟨_, by first | rfl | (simp [errW_none, errW_some] <;> rfl) | (simp [*, errW_none, errW_some] <;> rfl), by (with_reducible repeat (first | apply Kd.R_alloc | apply Kd.R_drewN | apply Kd.R_drew)); exact Kd.R_mono (Kd.R_far (p := ⟨gb255, 3, none⟩) (Kd.R_far (p := ⟨gb255, 2, none⟩) (Kd.R_far (p := ⟨gb255, 1, none⟩) (Kd.R_far (p := ⟨gb255, 0, none⟩) (Kd.R_mono HO262.out (fun k_ hk => (⟨hk, hk.2⟩ : _ ∧ k_ ≠ gb255))) (fun _ hk => hk.2) (.int .i64 t257)) (fun _ hk => hk.2) (.int .i64 t258)) (fun _ hk => hk.2) (.int .i64 t259)) (fun _ hk => hk.2) (.slice Ao15 t260.length co15)) (fun _ hk => trivial), by repeat first | refine zS ?_ GE254.out | refine zS ?_ GE255.out | exact HB.out | apply zA | apply zN | apply zD⟩
  ·rw [if_neg c6] at H
   exact absurd H (by simp)
 ·rw [if_neg c5] at H
  have c5b0 : ((l2.length : Int) == 1) = false := beq_eq_false_iff_ne.mpr c5
  have c5b1 : ((l2.length : Int) != 1) = true := bne_iff_ne.mpr c5
  replace H := Option.bind_eq_some_iff.mp H
  obtain ⟨t264, A170, H⟩ := H
  replace H : ((preset_Even.f k t264 (l2.length : Int)).bind fun bt265 => (if bt265.2 = 0 then (preset_sharedG.l0 Y k a1 bt265.1 l2 (l2.length : Int) 0 a0_0 a0_1 a1 0 0 ([] : List (S31))) else (some (0, 0, 0, ([] : List (S31)), false)))) = some (r1, r2, r3, r4, r5) := H
  have A17 := zM A170
  clear A170
  replace H := Option.bind_eq_some_iff.mp H
  obtain ⟨⟨t265, t266⟩, A180, H⟩ := H
  replace H : (if t266 = 0 then (preset_sharedG.l0 Y k a1 t265 l2 (l2.length : Int) 0 a0_0 a0_1 a1 0 0 ([] : List (S31))) else (some (0, 0, 0, ([] : List (S31)), false))) = some (r1, r2, r3, r4, r5) := H
  have A18 := zM A180
  clear A180
  by_cases c19 : t266 = 0
  ·rw [if_pos c19] at H
   have c19b0 : (t266 == 0) = true := beq_iff_eq.mpr c19
   have c19b1 : (t266 != 0) = false := bne_eq_false_iff_eq.mpr c19
   clear c19
   have H' := zM H
   clear H
   go_enter Try.func89, Try.ntmps89
   go_wp2_with (first | ((with_reducible refine gate_dst (N := 4) rfl ?_); refine box_event ?hg (N := 4) ?hd (cs := #[.int .i64 a0_0, .int .i64 a0_1]) (t := 83) ?hr ?_; (case hd => rfl); (case hg => rfl); (case hr => first | (go_simp; done) | (go_simp; rfl)); intro gb254 hg w20 hbox hb; have BK254 := zM (hbox); have GW254 := zM ((by rw [hg]; exact (below_size (by first | exact HB.out | exact zN HB.out _ | exact zD HB.out)) : w.heap.size ≤ gb254)); have GE254 := GW254; replace HB := zM (below_step (by first | exact HB.out | exact zN HB.out _ | exact zD HB.out) hb); clear hb hbox hg) | ((with_reducible refine gate_dst (N := 8) rfl ?_); refine box_event ?hg (N := 8) ?hd (cs := #[.int .i64 0, .int .i64 0, .int .i64 0, .slice none 0 0]) (t := 31) ?hr ?_; (case hd => rfl); (case hg => rfl); (case hr => first | (go_simp; done) | (go_simp; rfl)); intro gb255 hg w21 hbox hb; have BK255 := zM (hbox); have GW255 := zM ((by rw [hg]; exact (below_size (by repeat first | refine zS ?_ GE254.out | exact HB.out | apply zA | apply zN | apply zD)) : w.heap.size ≤ gb255)); have GE255 := GW255; have NB254_255 := zM ((by rw [hg]; exact lt1 BK254.out : gb254 ≠ gb255)); have NB255_254 := zM ((by rw [hg]; exact gt1 BK254.out : gb255 ≠ gb254)); replace BK254 := zM (bb hb BK254.out); replace HB := zM (below_step (by repeat first | refine zS ?_ GE254.out | exact HB.out | apply zA | apply zN | apply zD) hb); clear hb hbox hg; have hnb22 := NB254_255.out; have hnc22 := NB255_254.out; have hcz23_0 : w21.cell? ⟨gb254, 0, none⟩ = some (.int .i64 a0_0) := (blk_cell BK254.out 0).trans rfl; have hcz23_1 : w21.cell? ⟨gb254, 1, none⟩ = some (.int .i64 a0_1) := (blk_cell BK254.out 1).trans rfl; have hfz23_0 := blk_frozen BK254.out 0; have hfz23_1 := blk_frozen BK254.out 1) | ((with_reducible refine gate_callee (f := 119) rfl ?_); refine ga (some 31) rfl rfl Try.func119 (by kernel_rfl) rfl #[.agg #[.int .i64 a0_0, .int .i64 a0_1], .int .i64 a1] rfl ?_; (with_reducible refine (preset_size_along.calls a0_0 a0_1 a1 t264 _ A17.out).mono ?_); rintro e w24 ⟨rfl, hb⟩; refine ⟨_, rfl, ?_⟩; replace BK254 := zM (bb hb BK254.out); replace BK255 := zM (bb hb BK255.out); replace HB := zM (below_step (by repeat first | refine zS ?_ GE254.out | refine zS ?_ GE255.out | exact HB.out | apply zA | apply zN | apply zD) hb); (try clear hb); (try clear hb2); (try clear hk); (try clear hi)) | ((with_reducible refine gate_callee (f := 11) rfl ?_); refine ga (some 34) rfl rfl Try.func11 (by kernel_rfl) rfl #[.int .i64 t264, .int .i64 (l2.length : Int)] rfl ?_; (with_reducible refine (preset_Even.calls k t264 (l2.length : Int) t265 t266 _ A18.out).mono ?_); rintro e w25 ⟨v267, rfl, ho0, hb⟩; refine ⟨_, rfl, ?_⟩; have HO268 := zM (Kd.R_lower ho0 (below_size (by repeat first | refine zS ?_ GE254.out | refine zS ?_ GE255.out | exact HB.out | apply zA | apply zN | apply zD))); replace BK254 := zM (bb hb BK254.out); replace BK255 := zM (bb hb BK255.out); replace HB := zM (below_step (by repeat first | refine zS ?_ GE254.out | refine zS ?_ GE255.out | exact HB.out | apply zA | apply zN | apply zD) hb); (try clear hb); (try clear hb2); (try clear hk); (try clear hi); (try clear ho0)) | ((with_reducible refine gate_dst (N := 12) rfl ?_); refine box_event ?hg (N := 12) ?hd (cs := #[.int .i64 0, .int .i64 0, .int .i64 0, .slice none 0 0]) (t := 31) ?hr ?_; (case hd => rfl); (case hg => rfl); (case hr => first | (go_simp; done) | (go_simp; rfl)); intro gb269 hg w26 hbox hb; have BK269 := zM (hbox); have GW269 := zM ((by rw [hg]; exact (below_size (by repeat first | refine zS ?_ GE254.out | refine zS ?_ GE255.out | exact HB.out | apply zA | apply zN | apply zD)) : w.heap.size ≤ gb269)); have GE269 := GW269; have NB254_269 := zM ((by rw [hg]; exact lt1 BK254.out : gb254 ≠ gb269)); have NB269_254 := zM ((by rw [hg]; exact gt1 BK254.out : gb269 ≠ gb254)); have NB255_269 := zM ((by rw [hg]; exact lt1 BK255.out : gb255 ≠ gb269)); have NB269_255 := zM ((by rw [hg]; exact gt1 BK255.out : gb269 ≠ gb255)); replace HO268 := zM (Kd.R_below (by (with_reducible repeat (first | apply Kd.R_alloc | apply Kd.R_drewN | apply Kd.R_drew)); exact HO268.out) hb); replace BK254 := zM (bb hb BK254.out); replace BK255 := zM (bb hb BK255.out); replace HB := zM (below_step (by repeat first | refine zS ?_ GE254.out | refine zS ?_ GE255.out | exact HB.out | apply zA | apply zN | apply zD) hb); clear hb hbox hg; have hnb27 := NB269_254.out; have hnc27 := NB254_269.out; have hnb28 := NB269_255.out; have hnc28 := NB255_269.out; obtain ⟨hcz29_0, hcz29_1, hcz29_2, hcz29_3, hfz29_0, hfz29_1, hfz29_2, hfz29_3⟩ := cz4 BK269.out))
   go_loopg [44] k (fun kq v44 w' => ∃ (x44_1 : Int) (x256000_1 : Int) (x256001_1 : Int) (x256002_1 : Int) (x270003_1 : List (S31)) (u270003 : Value), v44 = .int .i64 x44_1 ∧ Aside0 (preset_sharedG.l0 Y kq a1 t265 l2 (l2.length : Int) x44_1 a0_0 a0_1 a1 0 0 x270003_1 = some (r1, r2, r3, r4, r5)) ∧ Aside0 (kq ≤ k) ∧ Aside0 (Kd.R (Kd.int .i64) 3 w' w.heap.size (fun _ => True) v267 t265) ∧ Aside0 (Kd.R k31 31 w' w.heap.size (fun k_ => k_ ≠ gb255 ∧ k_ ≠ gb269) u270003 x270003_1) ∧ Aside0 (w'.heap[gb254]? = some (.cells #[.int .i64 a0_0, .int .i64 a0_1] 83 (0, 0))) ∧ Aside0 (w'.heap[gb255]? = some (.cells #[.int .i64 x256000_1, .int .i64 x256001_1, .int .i64 x256002_1, (.slice none 0 0)] 31 (0, 0))) ∧ Aside0 (w'.heap[gb269]? = some (.cells #[.int .i64 a1, .int .i64 0, .int .i64 0, u270003] 31 (0, 0))) ∧ Aside0 (Below w.heap.size w w'))
   case atStart => exact ⟨(0), (0), (0), (0), (([] : List (S31))), (.slice none 0 0), (by first | rfl | (simp; done) | (simp [*]; done)), H', ⟨Nat.le_refl _⟩, ⟨by (with_reducible repeat (first | apply Kd.R_alloc | apply Kd.R_drewN | apply Kd.R_drew)); exact Kd.R_mono (Kd.R_far (p := ⟨gb269, 3, none⟩) (Kd.R_far (p := ⟨gb269, 2, none⟩) (Kd.R_far (p := ⟨gb269, 1, none⟩) (Kd.R_far (p := ⟨gb269, 0, none⟩) (Kd.R_types HO268.out BK269.out (by decide)) (fun _ hk => hk.2) (.int .i64 a1)) (fun _ hk => hk.2) (.int .i64 0)) (fun _ hk => hk.2) (.int .i64 0)) (fun _ hk => hk.2) (.slice none 0 0)) (fun _ hk => trivial)⟩, ⟨by first | exact Kd.R_nil _ _ _ _ _ | exact Kd.N_nil _ _ _ _ _ | exact Kd.V_nil _ _ _ _ _ | exact Kd.Q_nil _ _ _ _ _ | exact Kd.S_nil _ _ _ _ _⟩, ⟨by exact (far4 NB254_269.out BK254.out)⟩, ⟨by exact (far4 NB255_269.out BK255.out)⟩, ⟨by exact (put4 BK269.out)⟩, ⟨by repeat first | refine zS ?_ GE254.out | refine zS ?_ GE255.out | refine zS ?_ GE269.out | exact HB.out | apply zA | apply zN | apply zD⟩⟩
   case round =>
    clear H'
    (try clear c1); (try clear c2); (try clear p2); (try clear q2); (try clear hx2); (try clear qi2); (try clear c4); (try clear c5); (try clear c5b0); (try clear c5b1); (try clear c6); (try clear c6b0); (try clear c6b1); (try clear c11); (try clear c14); (try clear c19); (try clear c19b0); (try clear c19b1); (try clear c22); (try clear c25); (try clear p25); (try clear q25); (try clear hx25); (try clear qi25); (try clear c27); (try clear c28); (try clear hcz23_0); (try clear hcz23_1); (try clear hcz29_0); (try clear hcz29_1); (try clear hcz29_2); (try clear hcz29_3); (try clear hfz23_0); (try clear hfz23_1); (try clear hfz29_0); (try clear hfz29_1); (try clear hfz29_2); (try clear hfz29_3); (try clear hx256_0); (try clear p256); (try clear q256)
    obtain ⟨x44_1, x256000_1, x256001_1, x256002_1, x270003_1, u270003, rfl, HA, HK1, HO_10, HO_270003, BK254, BK255, BK269, HB⟩ := hrel
    cases gk with
    | zero => exact absurd HA.out (by simp [preset_sharedG.l0])
    | succ k1 =>
     have H := HA.out
     clear HA
     simp only [preset_sharedG.l0] at H
     by_cases c30 : x44_1 < (l2.length : Int)
     ·rw [if_pos c30] at H
      have c30b0 : decide (x44_1 < (l2.length : Int)) = true := decide_eq_true c30
      clear c30
      by_cases c31 : 0 ≤ x44_1
      ·rw [if_pos c31] at H
       have c31b0 : decide (0 ≤ x44_1) = true := decide_eq_true c31
       clear c31
       by_cases c32 : x44_1 < (l2.length : Int)
       ·rw [if_pos c32] at H
        have c32b0 : decide (x44_1 < (l2.length : Int)) = true := decide_eq_true c32
        clear c32
        by_cases c33 : x44_1 < (t265.length : Int)
        ·rw [if_pos c33] at H
         have c33b0 : decide (x44_1 < (t265.length : Int)) = true := decide_eq_true c33
         clear c33
         replace H := Option.bind_eq_some_iff.mp H
         obtain ⟨⟨t272, t273⟩, A340, H⟩ := H
         replace H : ((Y.F k1 t272 t273 (rd_L2 l2 x44_1)).bind fun bt274 => (if bt274.2.2.2.2 = true then (if x270003_1.length < 2932031007402 then (preset_sharedG.l0 Y k1 a1 t265 l2 (l2.length : Int) (wrap64 (x44_1 + 1)) a0_0 a0_1 a1 0 0 (x270003_1 ++ [(⟨bt274.1, bt274.2.1, rd t265 x44_1, bt274.2.2.2.1⟩ : S31)])) else (none)) else (some (0, 0, 0, ([] : List (S31)), false)))) = some (r1, r2, r3, r4, r5) := H
         have A34 := zM A340
         clear A340
         replace H := Option.bind_eq_some_iff.mp H
         obtain ⟨⟨t274, t275, t276, t277, t280⟩, A350, H⟩ := H
         replace H : (if t280 = true then (if x270003_1.length < 2932031007402 then (preset_sharedG.l0 Y k1 a1 t265 l2 (l2.length : Int) (wrap64 (x44_1 + 1)) a0_0 a0_1 a1 0 0 (x270003_1 ++ [(⟨t274, t275, rd t265 x44_1, t277⟩ : S31)])) else (none)) else (some (0, 0, 0, ([] : List (S31)), false))) = some (r1, r2, r3, r4, r5) := H
         have A35 := zM A350
         clear A350
         by_cases c36 : t280 = true
         ·subst c36
          have H1 : (if x270003_1.length < 2932031007402 then (preset_sharedG.l0 Y k1 a1 t265 l2 (l2.length : Int) (wrap64 (x44_1 + 1)) a0_0 a0_1 a1 0 0 (x270003_1 ++ [(⟨t274, t275, rd t265 x44_1, t277⟩ : S31)])) else (none)) = some (r1, r2, r3, r4, r5) := by rw [if_pos rfl] at H; exact H
          clear H
          have H := H1
          clear H1
          by_cases c37 : x270003_1.length < 2932031007402
          ·rw [if_pos c37] at H
           have LMc37 := zM c37
           clear c37
           obtain ⟨y283, hy283⟩ : ∃ y_ : List (S31), y_ = (x270003_1 ++ [(⟨t274, t275, rd t265 x44_1, t277⟩ : S31)]) := ⟨_, rfl⟩
           replace H : (preset_sharedG.l0 Y k1 a1 t265 l2 (l2.length : Int) (wrap64 (x44_1 + 1)) a0_0 a0_1 a1 0 0 y283) = some (r1, r2, r3, r4, r5) := by first | (rw [hy283]; with_reducible exact H) | (have H2_ := (Option.bind_some _ _).symm.trans H; rw [hy283]; with_reducible exact H2_) | (have H2_ := (Option.bind_some _ _).symm.trans H; with_reducible exact H2_) | with_reducible exact H | (rw [hy283]; exact H) | exact H
           have Ny283 := zM hy283
           clear hy283
           have H' := zM H
           clear H
           have p270 : 0 ≤ (x44_1 : Int) := of_decide_eq_true (by first | (with_reducible assumption) | assumption)
           have q270 : x44_1 < (l2.length : Int) := of_decide_eq_true (by first | (with_reducible assumption) | assumption)
           obtain ⟨ad270, A270_0, c270_0, e270, hx270_0, hl270_0, hi270_0⟩ := at_L2 HR2.out x44_1 p270 q270
           cases e270
           replace hx270_0 := (HB.out.cell (zL w _ hx270_0)).trans hx270_0
           have HR270_0 := zM hi270_0
           have HC270_0 := zM hl270_0
           clear hi270_0 hl270_0
           replace p270 := eq_true p270
           replace q270 := eq_true q270
           try go_wp2
           replace HO_10 := zM (Kd.R_drew HO_10.out); replace HO_270003 := zM (Kd.R_drew HO_270003.out); replace BK254 := zM (blk_drew BK254.out); replace BK255 := zM (blk_drew BK255.out); replace BK269 := zM (blk_drew BK269.out); replace HB := zM (zD HB.out)
           obtain ⟨Ao39, co39, eo39⟩ := Kd.R_slice HO_10.out
           (first | subst eo39 | (injection eo39 with f1_ f2_ f3_; have f4_ := f1_.symm; have f5_ := f3_.symm; clear f1_ f2_ f3_; subst f4_; subst f5_))
           have p271 : 0 ≤ (x44_1 : Int) := of_decide_eq_true (by first | (with_reducible assumption) | assumption)
           have q271 : x44_1 < (t265.length : Int) := of_decide_eq_true (by first | (with_reducible assumption) | assumption)
           obtain ⟨ad271, e271, hx271_0⟩ := Kd.at_int (Kd.R_reads' HO_10.out).2.2 x44_1 p271 q271
           cases e271
           replace p271 := eq_true p271
           replace q271 := eq_true q271
           refine start_ (n := 16) (S := fun w' => w'.cell? ⟨gb254, 0, none⟩ = some (.int .i64 a0_0) ∧ w'.cell? ⟨gb254, 1, none⟩ = some (.int .i64 a0_1) ∧ w'.cell? (ad271.add (x44_1).toNat) = some (.int .i64 (rd t265 x44_1))) (ds := []) #[false, false, false, false, false, false, false, false, false, false, false, false, false, false, false, false] (by kernel_rfl) rfl rfl ⟨(blk_cell BK254.out 0).trans rfl, (blk_cell BK254.out 1).trans rfl, hx271_0⟩ (fun hHeld => ?_); refine with_tabW preset_sharedG.tab10 preset_sharedG.bits10 (fun HT_ HW_ => ?_)
           generalize wr.drew = w38 at HO_10 HO_270003 BK254 BK255 BK269 HB hx271_0 hHeld ⊢
           refine pv (v := ?_) (a' := ?_) HT_.out 0 (some 50) m89_0_ ?_ ?_ ?_; rotate_left 2; (·intro w'; go_simp; with_reducible rfl); (·simp only [Act.put, s1, s2, s3, i64_w, i32_w]; rfl)
           refine pv (v := ?_) (a' := ?_) HT_.out 2 (some 52) m89_1_ ?_ ?_ ?_; rotate_left 2; (·intro w'; go_simp; with_reducible rfl); (·simp only [Act.put, s1, s2, s3, i64_w, i32_w]; rfl)
           refine pv (v := ?_) (a' := ?_) HT_.out 3 (some 53) m89_2_ ?_ ?_ ?_; rotate_left 2; (·intro w'; go_simp; with_reducible rfl); (·simp only [Act.put, s1, s2, s3, i64_w, i32_w]; rfl)
           refine pv (v := ?_) (a' := ?_) HT_.out 4 (some 54) m89_3_ ?_ ?_ ?_; rotate_left 2; (·intro w'; go_simp; with_reducible rfl); (·simp only [Act.put, s1, s2, s3, i64_w, i32_w]; rfl)
           refine pv (v := ?_) (a' := ?_) HT_.out 5 (some 55) m89_4_ ?_ ?_ ?_; rotate_left 2; (·intro w'; go_simp; with_reducible rfl); (·simp only [Act.put, s1, s2, s3, i64_w, i32_w]; rfl)
           refine pv (v := ?_) (a' := ?_) HT_.out 8 (some 58) m89_5_ ?_ ?_ ?_; rotate_left 2; (·intro w'; go_simp; with_reducible rfl); (·simp only [Act.put, s1, s2, s3, i64_w, i32_w]; rfl)
           refine take_ (i := 1) (N := some 51) (v := ?_) (a' := ?_) m89_6_ rfl rfl (take_ofW HT_.out HW_.out (by kernel_rfl)) (fun _ _ _ h => h) (Or.inl ⟨by rfl, ?_⟩) hHeld ?_ ?_; rotate_left; (·rintro w' ⟨s0, s1, s2⟩; go_simp; with_reducible rfl); rotate_left; (·simp only [Act.put, s1, s2, s3, i64_w, i32_w]; rfl)
           refine take_ (i := 6) (N := some 56) (v := ?_) (a' := ?_) m89_7_ rfl rfl (take_ofW HT_.out HW_.out (by kernel_rfl)) (fun _ _ _ h => h) (Or.inl ⟨by rfl, ?_⟩) hHeld ?_ ?_; rotate_left; (·rintro w' ⟨s0, s1, s2⟩; go_simp; with_reducible rfl); rotate_left; (·simp only [Act.put, s1, s2, s3, i64_w, i32_w]; rfl)
           refine join_ (σ := Value × Nat) 2 m89_8_ (fun s_ => [(57, .agg #[.int .i64 t272, .int .i64 t273]), (59, .tuple #[.agg #[.int .i64 t274, .int .i64 t275, .int .i64 t276, s_.1], .bool true]), (15, .pointer (some ⟨s_.2, 0, none⟩)), (49, .tuple #[.agg #[.int .i64 t274, .int .i64 t275, .int .i64 t276, s_.1], .bool true]), (60, .agg #[.int .i64 t274, .int .i64 t275, .int .i64 t276, s_.1]), (61, .bool true)]) (fun s_ w' => (w'.cell? ⟨gb254, 0, none⟩ = some (.int .i64 a0_0) ∧ w'.cell? ⟨gb254, 1, none⟩ = some (.int .i64 a0_1) ∧ w'.cell? (ad271.add (x44_1).toNat) = some (.int .i64 (rd t265 x44_1))) ∧ (Kd.R k31 31 w' w.heap.size (fun k_ => some k_ ≠ (u270003 : Value).ownBlock ∧ k_ ≠ gb255 ∧ k_ ≠ gb269 ∧ k_ ≠ s_.2) s_.1 t277) ∧ (Kd.R (Kd.int .i64) 3 w' w.heap.size (fun _ => True) (.slice (some ad271) t265.length co39) t265) ∧ (Kd.R k31 31 w' w.heap.size (fun k_ => some k_ ≠ (s_.1 : Value).ownBlock ∧ k_ ≠ gb255 ∧ k_ ≠ gb269 ∧ k_ ≠ s_.2) u270003 x270003_1) ∧ (w'.heap[gb254]? = some (.cells #[.int .i64 a0_0, .int .i64 a0_1] 83 (0, 0))) ∧ (w'.heap[gb255]? = some (.cells #[.int .i64 x256000_1, .int .i64 x256001_1, .int .i64 x256002_1, .slice none 0 0] 31 (0, 0))) ∧ (w'.heap[gb269]? = some (.cells #[.int .i64 a1, .int .i64 0, .int .i64 0, u270003] 31 (0, 0))) ∧ (w'.heap[s_.2]? = some (.cells #[.int .i64 0, .int .i64 0, .int .i64 0, .slice none 0 0] 31 (0, 0))) ∧ (w.heap.size ≤ s_.2) ∧ (w.heap.size ≤ s_.2) ∧ (gb254 ≠ s_.2) ∧ (s_.2 ≠ gb254) ∧ (gb255 ≠ s_.2) ∧ (s_.2 ≠ gb255) ∧ (gb269 ≠ s_.2) ∧ (s_.2 ≠ gb269) ∧ (Below w.heap.size w w')) ?_ ?_
           rotate_left
           ·intro hCont
            refine two_ (i := 7) (j := 13) (Ni := some 57) (Nj := some 15) m89_9_ m89_10_ rfl rfl rfl rfl (two_of HT_.out (by kernel_rfl)) (by decide) (by decide) (fun K hK => ?_) (fun K hK => ?_)
            ·skip
             refine goes_ Try.func120 (by kernel_rfl) rfl #[.agg #[.int .i64 a0_0, .int .i64 a0_1], .int .i64 a1, .int .i64 (rd t265 x44_1)] (by rfl) rfl rfl (by (try simp only [List.map_toArray, List.map_cons, List.map_nil]); first | done | rfl | (simp only [List.length_drop, List.length_take]; rfl)) ?_
             with_reducible refine (preset_size_with.calls a0_0 a0_1 a1 (rd t265 x44_1) t272 t273 _ A34.out).mono ?_
             rintro e w40 ⟨rfl, hb⟩
             have HS2_ := (hb.cell (zL _ _ (hHeld.2.2))).trans (hHeld.2.2)
             refine ⟨_, rfl, ?_⟩
             replace HO_10 := zM (Kd.R_below (by (with_reducible repeat (first | apply Kd.R_alloc | apply Kd.R_drewN | apply Kd.R_drew)); exact HO_10.out) hb); replace HO_270003 := zM (Kd.R_below (by (with_reducible repeat (first | apply Kd.R_alloc | apply Kd.R_drewN | apply Kd.R_drew)); exact HO_270003.out) hb); replace BK254 := zM (bb hb BK254.out); replace BK255 := zM (bb hb BK255.out); replace BK269 := zM (bb hb BK269.out); replace HB := zM (below_step (by repeat first | refine zS ?_ GE254.out | refine zS ?_ GE255.out | refine zS ?_ GE269.out | exact HB.out | apply zA | apply zN | apply zD) hb)
             (try clear hb)
             (try clear hb2)
             (try clear hk)
             (try clear hi)
             refine hK.out _ _ ⟨(blk_cell BK254.out 0).trans rfl, (blk_cell BK254.out 1).trans rfl, HS2_⟩ (fun hHeld => ?_)
             clear hK K
             refine norm_ (a' := ?_) ?_ ?_
             rotate_left
             ·show Act.put _ (some 57) _ = _
              simp only [Act.put, s1, s2, s3, i64_w, i32_w]
              rfl
             refine two_ (i := 9) (j := 13) (Ni := some 59) (Nj := some 15) m89_11_ m89_12_ rfl rfl rfl rfl (two_of HT_.out (by kernel_rfl)) (by decide) (by decide) (fun K hK => ?_) (fun K hK => ?_)
             ·skip
              refine goesV_ Y.hf Y.hn Y.hb #[.agg #[.int .i64 t272, .int .i64 t273], .slice A270_0 (rd_L2 l2 x44_1).length c270_0] (by rfl) rfl rfl rfl (by (try simp only [List.map_toArray, List.map_cons, List.map_nil]); first | done | rfl | (simp only [List.length_drop, List.length_take]; rfl)) ?_
              with_reducible refine (Y.calls k1 t272 t273 _ _ (rd_L2 l2 x44_1) t274 t275 t276 t277 true _ ?side1 ?side2 A35.out).mono ?_
              (case side1 => repeat (first | exact (Kd.C_below HR270_0.out HB.out) | (with_reducible refine Kd.C_alloc ?_ _) | (with_reducible refine Kd.C_drewN ?_ _) | (with_reducible refine Kd.C_drew ?_)))
              (case side2 => exact HC270_0.out)
              rintro e w41 ⟨v278, rfl, ho0, hb⟩
              have HS2_ := (hb.cell (zL _ _ (hHeld.2.2))).trans (hHeld.2.2)
              refine ⟨_, rfl, ?_⟩
              have HO279 := zM (Kd.R_lower (Kd.R_newB (Kd.R_newB (Kd.R_new' ho0 (Kd.R_lt (by (with_reducible repeat (first | apply Kd.R_alloc | apply Kd.R_drewN | apply Kd.R_drew)); exact HO_270003.out))) (g := gb255) (o := .cells #[.int .i64 x256000_1, .int .i64 x256001_1, .int .i64 x256002_1, .slice none 0 0] 31 (0, 0)) (by (with_reducible repeat (first | refine blk_drewN ?_ _ | refine blk_drew ?_ | refine blk_alloc ?_ _)); exact BK255.out)) (g := gb269) (o := .cells #[.int .i64 a1, .int .i64 0, .int .i64 0, u270003] 31 (0, 0)) (by (with_reducible repeat (first | refine blk_drewN ?_ _ | refine blk_drew ?_ | refine blk_alloc ?_ _)); exact BK269.out)) (below_size (by repeat first | refine zS ?_ GE254.out | refine zS ?_ GE255.out | refine zS ?_ GE269.out | exact HB.out | apply zA | apply zN | apply zD))); replace HO_10 := zM (Kd.R_below (by (with_reducible repeat (first | apply Kd.R_alloc | apply Kd.R_drewN | apply Kd.R_drew)); exact HO_10.out) hb); replace HO_270003 := zM (Kd.R_elder' (by (with_reducible repeat (first | apply Kd.R_alloc | apply Kd.R_drewN | apply Kd.R_drew)); exact HO_270003.out) (Kd.R_base ho0) hb); replace BK254 := zM (bb hb BK254.out); replace BK255 := zM (bb hb BK255.out); replace BK269 := zM (bb hb BK269.out); replace HB := zM (below_step (by repeat first | refine zS ?_ GE254.out | refine zS ?_ GE255.out | refine zS ?_ GE269.out | exact HB.out | apply zA | apply zN | apply zD) hb)
              (try clear hb)
              (try clear hb2)
              (try clear hk)
              (try clear hi)
              (try clear ho0)
              refine hK.out _ _ ⟨(blk_cell BK254.out 0).trans rfl, (blk_cell BK254.out 1).trans rfl, HS2_⟩ (fun hHeld => ?_)
              clear hK K
              refine norm_ (a' := ?_) ?_ ?_
              rotate_left
              ·show Act.put _ (some 59) _ = _
               simp only [Act.put, s1, s2, s3, i64_w, i32_w]
               rfl
              refine pv (v := ?_) (a' := ?_) HT_.out 10 (some 49) m89_13_ ?_ ?_ ?_; rotate_left 2; (·intro w'; go_simp; with_reducible rfl); (·simp only [Act.put, s1, s2, s3, i64_w, i32_w]; rfl)
              refine pv (v := ?_) (a' := ?_) HT_.out 11 (some 60) m89_14_ ?_ ?_ ?_; rotate_left 2; (·intro w'; go_simp; with_reducible rfl); (·simp only [Act.put, s1, s2, s3, i64_w, i32_w]; rfl)
              refine pv (v := ?_) (a' := ?_) HT_.out 12 (some 61) m89_15_ ?_ ?_ ?_; rotate_left 2; (·intro w'; go_simp; with_reducible rfl); (·simp only [Act.put, s1, s2, s3, i64_w, i32_w]; rfl)
              refine one_ (i := 13) (N := some 15) m89_8_ rfl rfl (one_of HT_.out (by kernel_rfl)) (by decide) (fun K hK => ?_)
              refine box_step ?hg (N := 15) ?hd (cs := #[.int .i64 0, .int .i64 0, .int .i64 0, .slice none 0 0]) (t := 31) ?hr ?_; (case hd => rfl); (case hg => rfl); (case hr => first | (go_simp; done) | (go_simp; rfl))
              intro gb281 hg w42 hbox hb
              have HS2_ := (hb.cell (zL _ _ (hHeld.2.2))).trans (hHeld.2.2)
              have BK281 := zM (hbox); have GW281 := zM ((by rw [hg]; exact (below_size (by repeat first | refine zS ?_ GE254.out | refine zS ?_ GE255.out | refine zS ?_ GE269.out | exact HB.out | apply zA | apply zN | apply zD)) : w.heap.size ≤ gb281)); have GE281 := GW281; have NB254_281 := zM ((by rw [hg]; exact lt1 BK254.out : gb254 ≠ gb281)); have NB281_254 := zM ((by rw [hg]; exact gt1 BK254.out : gb281 ≠ gb254)); have NB255_281 := zM ((by rw [hg]; exact lt1 BK255.out : gb255 ≠ gb281)); have NB281_255 := zM ((by rw [hg]; exact gt1 BK255.out : gb281 ≠ gb255)); have NB269_281 := zM ((by rw [hg]; exact lt1 BK269.out : gb269 ≠ gb281)); have NB281_269 := zM ((by rw [hg]; exact gt1 BK269.out : gb281 ≠ gb269)); replace HO_10 := zM (Kd.R_below (by (with_reducible repeat (first | apply Kd.R_alloc | apply Kd.R_drewN | apply Kd.R_drew)); exact HO_10.out) hb); replace HO_270003 := zM (Kd.R_below (Kd.R_elderB (by (with_reducible repeat (first | apply Kd.R_alloc | apply Kd.R_drewN | apply Kd.R_drew)); exact HO_270003.out) gb281 (Nat.le_of_eq hg.symm)) hb); replace HO279 := zM (Kd.R_below (Kd.R_elderB (by (with_reducible repeat (first | apply Kd.R_alloc | apply Kd.R_drewN | apply Kd.R_drew)); exact HO279.out) gb281 (Nat.le_of_eq hg.symm)) hb); replace BK254 := zM (bb hb BK254.out); replace BK255 := zM (bb hb BK255.out); replace BK269 := zM (bb hb BK269.out); replace HB := zM (below_step (by repeat first | refine zS ?_ GE254.out | refine zS ?_ GE255.out | refine zS ?_ GE269.out | exact HB.out | apply zA | apply zN | apply zD) hb)
              clear hb hbox hg
              refine hK.out _ _ ⟨(blk_cell BK254.out 0).trans rfl, (blk_cell BK254.out 1).trans rfl, HS2_⟩ (fun hHeld => ?_)
              clear hK K
              refine norm_ (a' := ?_) ?_ ?_
              rotate_left
              ·show Act.put _ (some 15) _ = _
               simp only [Act.put, s1, s2, s3, i64_w, i32_w]
               rfl
              exact norm_ (by simp only [putAll, Act.put, List.setIfInBounds_toArray, List.set_cons_zero, List.set_cons_succ]) (hCont (v278, gb281) _ ⟨hHeld, (by (with_reducible repeat (first | apply Kd.R_alloc | apply Kd.R_drewN | apply Kd.R_drew)); exact Kd.R_mono HO279.out (fun _ hk => ⟨hk.1.1.1.2, ⟨hk.1.1.2, ⟨hk.1.2, hk.2⟩⟩⟩)), (by (with_reducible repeat (first | apply Kd.R_alloc | apply Kd.R_drewN | apply Kd.R_drew)); exact HO_10.out), (by (with_reducible repeat (first | apply Kd.R_alloc | apply Kd.R_drewN | apply Kd.R_drew)); exact Kd.R_mono HO_270003.out (fun _ hk => ⟨hk.1.2, ⟨hk.1.1.1, ⟨hk.1.1.2, hk.2⟩⟩⟩)), (by (with_reducible repeat (first | refine blk_drewN ?_ _ | refine blk_drew ?_ | refine blk_alloc ?_ _)); exact BK254.out), (by (with_reducible repeat (first | refine blk_drewN ?_ _ | refine blk_drew ?_ | refine blk_alloc ?_ _)); exact BK255.out), (by (with_reducible repeat (first | refine blk_drewN ?_ _ | refine blk_drew ?_ | refine blk_alloc ?_ _)); exact BK269.out), (by (with_reducible repeat (first | refine blk_drewN ?_ _ | refine blk_drew ?_ | refine blk_alloc ?_ _)); exact BK281.out), GW281.out, GE281.out, NB254_281.out, NB281_254.out, NB255_281.out, NB281_255.out, NB269_281.out, NB281_269.out, (by repeat first | refine zS ?_ GE254.out | refine zS ?_ GE255.out | refine zS ?_ GE269.out | refine zS ?_ GE281.out | exact HB.out | apply zA | apply zN | apply zD)⟩)
             ·skip
              refine box_step ?hg (N := 15) ?hd (cs := #[.int .i64 0, .int .i64 0, .int .i64 0, .slice none 0 0]) (t := 31) ?hr ?_; (case hd => rfl); (case hg => rfl); (case hr => first | (go_simp; done) | (go_simp; rfl))
              intro gb281 hg w41 hbox hb
              have HS2_ := (hb.cell (zL _ _ (hHeld.2.2))).trans (hHeld.2.2)
              have BK281 := zM (hbox); have GW281 := zM ((by rw [hg]; exact (below_size (by repeat first | refine zS ?_ GE254.out | refine zS ?_ GE255.out | refine zS ?_ GE269.out | exact HB.out | apply zA | apply zN | apply zD)) : w.heap.size ≤ gb281)); have GE281 := GW281; have NB254_281 := zM ((by rw [hg]; exact lt1 BK254.out : gb254 ≠ gb281)); have NB281_254 := zM ((by rw [hg]; exact gt1 BK254.out : gb281 ≠ gb254)); have NB255_281 := zM ((by rw [hg]; exact lt1 BK255.out : gb255 ≠ gb281)); have NB281_255 := zM ((by rw [hg]; exact gt1 BK255.out : gb281 ≠ gb255)); have NB269_281 := zM ((by rw [hg]; exact lt1 BK269.out : gb269 ≠ gb281)); have NB281_269 := zM ((by rw [hg]; exact gt1 BK269.out : gb281 ≠ gb269)); replace HO_10 := zM (Kd.R_below (by (with_reducible repeat (first | apply Kd.R_alloc | apply Kd.R_drewN | apply Kd.R_drew)); exact HO_10.out) hb); replace HO_270003 := zM (Kd.R_below (Kd.R_elderB (by (with_reducible repeat (first | apply Kd.R_alloc | apply Kd.R_drewN | apply Kd.R_drew)); exact HO_270003.out) gb281 (Nat.le_of_eq hg.symm)) hb); replace BK254 := zM (bb hb BK254.out); replace BK255 := zM (bb hb BK255.out); replace BK269 := zM (bb hb BK269.out); replace HB := zM (below_step (by repeat first | refine zS ?_ GE254.out | refine zS ?_ GE255.out | refine zS ?_ GE269.out | exact HB.out | apply zA | apply zN | apply zD) hb)
              clear hb hbox hg
              refine hK.out _ _ ⟨(blk_cell BK254.out 0).trans rfl, (blk_cell BK254.out 1).trans rfl, HS2_⟩ (fun hHeld => ?_)
              clear hK K
              refine norm_ (a' := ?_) ?_ ?_
              rotate_left
              ·show Act.put _ (some 15) _ = _
               simp only [Act.put, s1, s2, s3, i64_w, i32_w]
               rfl
              refine one_ (i := 9) (N := some 59) m89_16_ rfl rfl (one_of HT_.out (by kernel_rfl)) (by decide) (fun K hK => ?_)
              refine goesV_ Y.hf Y.hn Y.hb #[.agg #[.int .i64 t272, .int .i64 t273], .slice A270_0 (rd_L2 l2 x44_1).length c270_0] (by rfl) rfl rfl rfl (by (try simp only [List.map_toArray, List.map_cons, List.map_nil]); first | done | rfl | (simp only [List.length_drop, List.length_take]; rfl)) ?_
              with_reducible refine (Y.calls k1 t272 t273 _ _ (rd_L2 l2 x44_1) t274 t275 t276 t277 true _ ?side1 ?side2 A35.out).mono ?_
              (case side1 => repeat (first | exact (Kd.C_below HR270_0.out HB.out) | (with_reducible refine Kd.C_alloc ?_ _) | (with_reducible refine Kd.C_drewN ?_ _) | (with_reducible refine Kd.C_drew ?_)))
              (case side2 => exact HC270_0.out)
              rintro e w42 ⟨v278, rfl, ho0, hb⟩
              have HS2_ := (hb.cell (zL _ _ (hHeld.2.2))).trans (hHeld.2.2)
              refine ⟨_, rfl, ?_⟩
              have HO279 := zM (Kd.R_lower (Kd.R_newB (Kd.R_newB (Kd.R_newB (Kd.R_new' ho0 (Kd.R_lt (by (with_reducible repeat (first | apply Kd.R_alloc | apply Kd.R_drewN | apply Kd.R_drew)); exact HO_270003.out))) (g := gb255) (o := .cells #[.int .i64 x256000_1, .int .i64 x256001_1, .int .i64 x256002_1, .slice none 0 0] 31 (0, 0)) (by (with_reducible repeat (first | refine blk_drewN ?_ _ | refine blk_drew ?_ | refine blk_alloc ?_ _)); exact BK255.out)) (g := gb269) (o := .cells #[.int .i64 a1, .int .i64 0, .int .i64 0, u270003] 31 (0, 0)) (by (with_reducible repeat (first | refine blk_drewN ?_ _ | refine blk_drew ?_ | refine blk_alloc ?_ _)); exact BK269.out)) (g := gb281) (o := .cells #[.int .i64 0, .int .i64 0, .int .i64 0, .slice none 0 0] 31 (0, 0)) (by (with_reducible repeat (first | refine blk_drewN ?_ _ | refine blk_drew ?_ | refine blk_alloc ?_ _)); exact BK281.out)) (below_size (by repeat first | refine zS ?_ GE254.out | refine zS ?_ GE255.out | refine zS ?_ GE269.out | refine zS ?_ GE281.out | exact HB.out | apply zA | apply zN | apply zD))); replace HO_10 := zM (Kd.R_below (by (with_reducible repeat (first | apply Kd.R_alloc | apply Kd.R_drewN | apply Kd.R_drew)); exact HO_10.out) hb); replace HO_270003 := zM (Kd.R_elder' (by (with_reducible repeat (first | apply Kd.R_alloc | apply Kd.R_drewN | apply Kd.R_drew)); exact HO_270003.out) (Kd.R_base ho0) hb); replace BK254 := zM (bb hb BK254.out); replace BK255 := zM (bb hb BK255.out); replace BK269 := zM (bb hb BK269.out); replace BK281 := zM (bb hb BK281.out); replace HB := zM (below_step (by repeat first | refine zS ?_ GE254.out | refine zS ?_ GE255.out | refine zS ?_ GE269.out | refine zS ?_ GE281.out | exact HB.out | apply zA | apply zN | apply zD) hb)
              (try clear hb)
              (try clear hb2)
              (try clear hk)
              (try clear hi)
              (try clear ho0)
              refine hK.out _ _ ⟨(blk_cell BK254.out 0).trans rfl, (blk_cell BK254.out 1).trans rfl, HS2_⟩ (fun hHeld => ?_)
              clear hK K
              refine norm_ (a' := ?_) ?_ ?_
              rotate_left
              ·show Act.put _ (some 59) _ = _
               simp only [Act.put, s1, s2, s3, i64_w, i32_w]
               rfl
              refine pv (v := ?_) (a' := ?_) HT_.out 10 (some 49) m89_17_ ?_ ?_ ?_; rotate_left 2; (·intro w'; go_simp; with_reducible rfl); (·simp only [Act.put, s1, s2, s3, i64_w, i32_w]; rfl)
              refine pv (v := ?_) (a' := ?_) HT_.out 11 (some 60) m89_18_ ?_ ?_ ?_; rotate_left 2; (·intro w'; go_simp; with_reducible rfl); (·simp only [Act.put, s1, s2, s3, i64_w, i32_w]; rfl)
              refine pv (v := ?_) (a' := ?_) HT_.out 12 (some 61) m89_8_ ?_ ?_ ?_; rotate_left 2; (·intro w'; go_simp; with_reducible rfl); (·simp only [Act.put, s1, s2, s3, i64_w, i32_w]; rfl)
              exact norm_ (by simp only [putAll, Act.put, List.setIfInBounds_toArray, List.set_cons_zero, List.set_cons_succ]) (hCont (v278, gb281) _ ⟨hHeld, (by (with_reducible repeat (first | apply Kd.R_alloc | apply Kd.R_drewN | apply Kd.R_drew)); exact Kd.R_mono HO279.out (fun _ hk => ⟨hk.1.1.1.2, ⟨hk.1.1.2, ⟨hk.1.2, hk.2⟩⟩⟩)), (by (with_reducible repeat (first | apply Kd.R_alloc | apply Kd.R_drewN | apply Kd.R_drew)); exact HO_10.out), (by (with_reducible repeat (first | apply Kd.R_alloc | apply Kd.R_drewN | apply Kd.R_drew)); exact Kd.R_mono HO_270003.out (fun _ hk => ⟨hk.2, ⟨hk.1.1.1, ⟨hk.1.1.2, hk.1.2⟩⟩⟩)), (by (with_reducible repeat (first | refine blk_drewN ?_ _ | refine blk_drew ?_ | refine blk_alloc ?_ _)); exact BK254.out), (by (with_reducible repeat (first | refine blk_drewN ?_ _ | refine blk_drew ?_ | refine blk_alloc ?_ _)); exact BK255.out), (by (with_reducible repeat (first | refine blk_drewN ?_ _ | refine blk_drew ?_ | refine blk_alloc ?_ _)); exact BK269.out), (by (with_reducible repeat (first | refine blk_drewN ?_ _ | refine blk_drew ?_ | refine blk_alloc ?_ _)); exact BK281.out), GW281.out, GE281.out, NB254_281.out, NB281_254.out, NB255_281.out, NB281_255.out, NB269_281.out, NB281_269.out, (by repeat first | refine zS ?_ GE254.out | refine zS ?_ GE255.out | refine zS ?_ GE269.out | refine zS ?_ GE281.out | exact HB.out | apply zA | apply zN | apply zD)⟩)
            ·skip
             refine box_step ?hg (N := 15) ?hd (cs := #[.int .i64 0, .int .i64 0, .int .i64 0, .slice none 0 0]) (t := 31) ?hr ?_; (case hd => rfl); (case hg => rfl); (case hr => first | (go_simp; done) | (go_simp; rfl))
             intro gb281 hg w40 hbox hb
             have HS2_ := (hb.cell (zL _ _ (hHeld.2.2))).trans (hHeld.2.2)
             have BK281 := zM (hbox); have GW281 := zM ((by rw [hg]; exact (below_size (by repeat first | refine zS ?_ GE254.out | refine zS ?_ GE255.out | refine zS ?_ GE269.out | exact HB.out | apply zA | apply zN | apply zD)) : w.heap.size ≤ gb281)); have GE281 := GW281; have NB254_281 := zM ((by rw [hg]; exact lt1 BK254.out : gb254 ≠ gb281)); have NB281_254 := zM ((by rw [hg]; exact gt1 BK254.out : gb281 ≠ gb254)); have NB255_281 := zM ((by rw [hg]; exact lt1 BK255.out : gb255 ≠ gb281)); have NB281_255 := zM ((by rw [hg]; exact gt1 BK255.out : gb281 ≠ gb255)); have NB269_281 := zM ((by rw [hg]; exact lt1 BK269.out : gb269 ≠ gb281)); have NB281_269 := zM ((by rw [hg]; exact gt1 BK269.out : gb281 ≠ gb269)); replace HO_10 := zM (Kd.R_below (by (with_reducible repeat (first | apply Kd.R_alloc | apply Kd.R_drewN | apply Kd.R_drew)); exact HO_10.out) hb); replace HO_270003 := zM (Kd.R_below (Kd.R_elderB (by (with_reducible repeat (first | apply Kd.R_alloc | apply Kd.R_drewN | apply Kd.R_drew)); exact HO_270003.out) gb281 (Nat.le_of_eq hg.symm)) hb); replace BK254 := zM (bb hb BK254.out); replace BK255 := zM (bb hb BK255.out); replace BK269 := zM (bb hb BK269.out); replace HB := zM (below_step (by repeat first | refine zS ?_ GE254.out | refine zS ?_ GE255.out | refine zS ?_ GE269.out | exact HB.out | apply zA | apply zN | apply zD) hb)
             clear hb hbox hg
             refine hK.out _ _ ⟨(blk_cell BK254.out 0).trans rfl, (blk_cell BK254.out 1).trans rfl, HS2_⟩ (fun hHeld => ?_)
             clear hK K
             refine norm_ (a' := ?_) ?_ ?_
             rotate_left
             ·show Act.put _ (some 15) _ = _
              simp only [Act.put, s1, s2, s3, i64_w, i32_w]
              rfl
             refine one_ (i := 7) (N := some 57) m89_12_ rfl rfl (one_of HT_.out (by kernel_rfl)) (by decide) (fun K hK => ?_)
             refine goes_ Try.func120 (by kernel_rfl) rfl #[.agg #[.int .i64 a0_0, .int .i64 a0_1], .int .i64 a1, .int .i64 (rd t265 x44_1)] (by rfl) rfl rfl (by (try simp only [List.map_toArray, List.map_cons, List.map_nil]); first | done | rfl | (simp only [List.length_drop, List.length_take]; rfl)) ?_
             with_reducible refine (preset_size_with.calls a0_0 a0_1 a1 (rd t265 x44_1) t272 t273 _ A34.out).mono ?_
             rintro e w41 ⟨rfl, hb⟩
             have HS2_ := (hb.cell (zL _ _ (hHeld.2.2))).trans (hHeld.2.2)
             refine ⟨_, rfl, ?_⟩
             replace HO_10 := zM (Kd.R_below (by (with_reducible repeat (first | apply Kd.R_alloc | apply Kd.R_drewN | apply Kd.R_drew)); exact HO_10.out) hb); replace HO_270003 := zM (Kd.R_below (by (with_reducible repeat (first | apply Kd.R_alloc | apply Kd.R_drewN | apply Kd.R_drew)); exact HO_270003.out) hb); replace BK254 := zM (bb hb BK254.out); replace BK255 := zM (bb hb BK255.out); replace BK269 := zM (bb hb BK269.out); replace BK281 := zM (bb hb BK281.out); replace HB := zM (below_step (by repeat first | refine zS ?_ GE254.out | refine zS ?_ GE255.out | refine zS ?_ GE269.out | refine zS ?_ GE281.out | exact HB.out | apply zA | apply zN | apply zD) hb)
             (try clear hb)
             (try clear hb2)
             (try clear hk)
             (try clear hi)
             refine hK.out _ _ ⟨(blk_cell BK254.out 0).trans rfl, (blk_cell BK254.out 1).trans rfl, HS2_⟩ (fun hHeld => ?_)
             clear hK K
             refine norm_ (a' := ?_) ?_ ?_
             rotate_left
             ·show Act.put _ (some 57) _ = _
              simp only [Act.put, s1, s2, s3, i64_w, i32_w]
              rfl
             refine one_ (i := 9) (N := some 59) m89_16_ rfl rfl (one_of HT_.out (by kernel_rfl)) (by decide) (fun K hK => ?_)
             refine goesV_ Y.hf Y.hn Y.hb #[.agg #[.int .i64 t272, .int .i64 t273], .slice A270_0 (rd_L2 l2 x44_1).length c270_0] (by rfl) rfl rfl rfl (by (try simp only [List.map_toArray, List.map_cons, List.map_nil]); first | done | rfl | (simp only [List.length_drop, List.length_take]; rfl)) ?_
             with_reducible refine (Y.calls k1 t272 t273 _ _ (rd_L2 l2 x44_1) t274 t275 t276 t277 true _ ?side1 ?side2 A35.out).mono ?_
             (case side1 => repeat (first | exact (Kd.C_below HR270_0.out HB.out) | (with_reducible refine Kd.C_alloc ?_ _) | (with_reducible refine Kd.C_drewN ?_ _) | (with_reducible refine Kd.C_drew ?_)))
             (case side2 => exact HC270_0.out)
             rintro e w42 ⟨v278, rfl, ho0, hb⟩
             have HS2_ := (hb.cell (zL _ _ (hHeld.2.2))).trans (hHeld.2.2)
             refine ⟨_, rfl, ?_⟩
             have HO279 := zM (Kd.R_lower (Kd.R_newB (Kd.R_newB (Kd.R_newB (Kd.R_new' ho0 (Kd.R_lt (by (with_reducible repeat (first | apply Kd.R_alloc | apply Kd.R_drewN | apply Kd.R_drew)); exact HO_270003.out))) (g := gb255) (o := .cells #[.int .i64 x256000_1, .int .i64 x256001_1, .int .i64 x256002_1, .slice none 0 0] 31 (0, 0)) (by (with_reducible repeat (first | refine blk_drewN ?_ _ | refine blk_drew ?_ | refine blk_alloc ?_ _)); exact BK255.out)) (g := gb269) (o := .cells #[.int .i64 a1, .int .i64 0, .int .i64 0, u270003] 31 (0, 0)) (by (with_reducible repeat (first | refine blk_drewN ?_ _ | refine blk_drew ?_ | refine blk_alloc ?_ _)); exact BK269.out)) (g := gb281) (o := .cells #[.int .i64 0, .int .i64 0, .int .i64 0, .slice none 0 0] 31 (0, 0)) (by (with_reducible repeat (first | refine blk_drewN ?_ _ | refine blk_drew ?_ | refine blk_alloc ?_ _)); exact BK281.out)) (below_size (by repeat first | refine zS ?_ GE254.out | refine zS ?_ GE255.out | refine zS ?_ GE269.out | refine zS ?_ GE281.out | exact HB.out | apply zA | apply zN | apply zD))); replace HO_10 := zM (Kd.R_below (by (with_reducible repeat (first | apply Kd.R_alloc | apply Kd.R_drewN | apply Kd.R_drew)); exact HO_10.out) hb); replace HO_270003 := zM (Kd.R_elder' (by (with_reducible repeat (first | apply Kd.R_alloc | apply Kd.R_drewN | apply Kd.R_drew)); exact HO_270003.out) (Kd.R_base ho0) hb); replace BK254 := zM (bb hb BK254.out); replace BK255 := zM (bb hb BK255.out); replace BK269 := zM (bb hb BK269.out); replace BK281 := zM (bb hb BK281.out); replace HB := zM (below_step (by repeat first | refine zS ?_ GE254.out | refine zS ?_ GE255.out | refine zS ?_ GE269.out | refine zS ?_ GE281.out | exact HB.out | apply zA | apply zN | apply zD) hb)
             (try clear hb)
             (try clear hb2)
             (try clear hk)
             (try clear hi)
             (try clear ho0)
             refine hK.out _ _ ⟨(blk_cell BK254.out 0).trans rfl, (blk_cell BK254.out 1).trans rfl, HS2_⟩ (fun hHeld => ?_)
             clear hK K
             refine norm_ (a' := ?_) ?_ ?_
             rotate_left
             ·show Act.put _ (some 59) _ = _
              simp only [Act.put, s1, s2, s3, i64_w, i32_w]
              rfl
             refine pv (v := ?_) (a' := ?_) HT_.out 10 (some 49) m89_17_ ?_ ?_ ?_; rotate_left 2; (·intro w'; go_simp; with_reducible rfl); (·simp only [Act.put, s1, s2, s3, i64_w, i32_w]; rfl)
             refine pv (v := ?_) (a' := ?_) HT_.out 11 (some 60) m89_18_ ?_ ?_ ?_; rotate_left 2; (·intro w'; go_simp; with_reducible rfl); (·simp only [Act.put, s1, s2, s3, i64_w, i32_w]; rfl)
             refine pv (v := ?_) (a' := ?_) HT_.out 12 (some 61) m89_8_ ?_ ?_ ?_; rotate_left 2; (·intro w'; go_simp; with_reducible rfl); (·simp only [Act.put, s1, s2, s3, i64_w, i32_w]; rfl)
             exact norm_ (by simp only [putAll, Act.put, List.setIfInBounds_toArray, List.set_cons_zero, List.set_cons_succ]) (hCont (v278, gb281) _ ⟨hHeld, (by (with_reducible repeat (first | apply Kd.R_alloc | apply Kd.R_drewN | apply Kd.R_drew)); exact Kd.R_mono HO279.out (fun _ hk => ⟨hk.1.1.1.2, ⟨hk.1.1.2, ⟨hk.1.2, hk.2⟩⟩⟩)), (by (with_reducible repeat (first | apply Kd.R_alloc | apply Kd.R_drewN | apply Kd.R_drew)); exact HO_10.out), (by (with_reducible repeat (first | apply Kd.R_alloc | apply Kd.R_drewN | apply Kd.R_drew)); exact Kd.R_mono HO_270003.out (fun _ hk => ⟨hk.2, ⟨hk.1.1.1, ⟨hk.1.1.2, hk.1.2⟩⟩⟩)), (by (with_reducible repeat (first | refine blk_drewN ?_ _ | refine blk_drew ?_ | refine blk_alloc ?_ _)); exact BK254.out), (by (with_reducible repeat (first | refine blk_drewN ?_ _ | refine blk_drew ?_ | refine blk_alloc ?_ _)); exact BK255.out), (by (with_reducible repeat (first | refine blk_drewN ?_ _ | refine blk_drew ?_ | refine blk_alloc ?_ _)); exact BK269.out), (by (with_reducible repeat (first | refine blk_drewN ?_ _ | refine blk_drew ?_ | refine blk_alloc ?_ _)); exact BK281.out), GW281.out, GE281.out, NB254_281.out, NB281_254.out, NB255_281.out, NB281_255.out, NB269_281.out, NB281_269.out, (by repeat first | refine zS ?_ GE254.out | refine zS ?_ GE255.out | refine zS ?_ GE269.out | refine zS ?_ GE281.out | exact HB.out | apply zA | apply zN | apply zD)⟩)
           rintro ⟨v278, gb281⟩ w43 ⟨hS_, h0_, h1_, h2_, h3_, h4_, h5_, h6_, h7_, h8_, h9_, h10_, h11_, h12_, h13_, h14_, h15_⟩
           have n0_ : Aside0 (Kd.R k31 31 w43 w.heap.size (fun k_ => some k_ ≠ (u270003 : Value).ownBlock ∧ k_ ≠ gb255 ∧ k_ ≠ gb269 ∧ k_ ≠ gb281) v278 t277) := ⟨h0_⟩
           have n1_ : Aside0 (Kd.R (Kd.int .i64) 3 w43 w.heap.size (fun _ => True) (.slice (some ad271) t265.length co39) t265) := ⟨h1_⟩
           have n2_ : Aside0 (Kd.R k31 31 w43 w.heap.size (fun k_ => some k_ ≠ (v278 : Value).ownBlock ∧ k_ ≠ gb255 ∧ k_ ≠ gb269 ∧ k_ ≠ gb281) u270003 x270003_1) := ⟨h2_⟩
           have n3_ : Aside0 (w43.heap[gb254]? = some (.cells #[.int .i64 a0_0, .int .i64 a0_1] 83 (0, 0))) := ⟨h3_⟩
           have n4_ : Aside0 (w43.heap[gb255]? = some (.cells #[.int .i64 x256000_1, .int .i64 x256001_1, .int .i64 x256002_1, .slice none 0 0] 31 (0, 0))) := ⟨h4_⟩
           have n5_ : Aside0 (w43.heap[gb269]? = some (.cells #[.int .i64 a1, .int .i64 0, .int .i64 0, u270003] 31 (0, 0))) := ⟨h5_⟩
           have n6_ : Aside0 (w43.heap[gb281]? = some (.cells #[.int .i64 0, .int .i64 0, .int .i64 0, .slice none 0 0] 31 (0, 0))) := ⟨h6_⟩
           have n7_ : Aside0 (w.heap.size ≤ gb281) := ⟨h7_⟩
           have n8_ : Aside0 (w.heap.size ≤ gb281) := ⟨h8_⟩
           have n9_ : Aside0 (gb254 ≠ gb281) := ⟨h9_⟩
           have n10_ : Aside0 (gb281 ≠ gb254) := ⟨h10_⟩
           have n11_ : Aside0 (gb255 ≠ gb281) := ⟨h11_⟩
           have n12_ : Aside0 (gb281 ≠ gb255) := ⟨h12_⟩
           have n13_ : Aside0 (gb269 ≠ gb281) := ⟨h13_⟩
           have n14_ : Aside0 (gb281 ≠ gb269) := ⟨h14_⟩
           have n15_ : Aside0 (Below w.heap.size w w43) := ⟨h15_⟩
           clear HO_10
           clear HO_270003
           clear BK254
           clear BK255
           clear BK269
           clear HB
           clear h0_ h1_ h2_ h3_ h4_ h5_ h6_ h7_ h8_ h9_ h10_ h11_ h12_ h13_ h14_ h15_
           have HO279 := n0_
           have HO_10 := n1_
           have HO_270003 := n2_
           have BK254 := n3_
           have BK255 := n4_
           have BK269 := n5_
           have BK281 := n6_
           have GW281 := n7_
           have GE281 := n8_
           have NB254_281 := n9_
           have NB281_254 := n10_
           have NB255_281 := n11_
           have NB281_255 := n12_
           have NB269_281 := n13_
           have NB281_269 := n14_
           have HB := n15_
           clear n0_ n1_ n2_ n3_ n4_ n5_ n6_ n7_ n8_ n9_ n10_ n11_ n12_ n13_ n14_ n15_
           have hHeld : w43.cell? ⟨gb254, 0, none⟩ = some (.int .i64 a0_0) ∧ w43.cell? ⟨gb254, 1, none⟩ = some (.int .i64 a0_1) ∧ w43.cell? (ad271.add (x44_1).toNat) = some (.int .i64 (rd t265 x44_1)) := hS_
           obtain ⟨Ao47, co47, eo47⟩ := Kd.R_slice HO279.out
           (first | subst eo47 | (injection eo47 with f1_ f2_ f3_; have f4_ := f1_.symm; have f5_ := f3_.symm; clear f1_ f2_ f3_; subst f4_; subst f5_))
           refine norm_ (a' := ?_) ?_ ?_
           rotate_left
           ·simp only [putAll, Act.put, List.setIfInBounds_toArray, List.set_cons_zero, List.set_cons_succ]
            rfl
           refine one_ (i := 14) (N := none) m89_19_ rfl rfl (one_of HT_.out (by kernel_rfl)) (by decide) (fun K hK => ?_)
           have hs44 : w43.cell? ⟨gb281, 0, none⟩ = some (.int .i64 0) := (blk_cell BK281.out 0).trans rfl
           have hfs44 := blk_frozen BK281.out 0
           have hns44_0 := NB254_281.out
           have hns44_1 := NB255_281.out
           have hns44_2 := NB269_281.out
           have hms44_0 := NB281_254.out
           have hms44_1 := NB281_255.out
           have hms44_2 := NB281_269.out
           have hs45 : w43.cell? ⟨gb281, 1, none⟩ = some (.int .i64 0) := (blk_cell BK281.out 1).trans rfl
           have hfs45 := blk_frozen BK281.out 1
           have hns45_0 := NB254_281.out
           have hns45_1 := NB255_281.out
           have hns45_2 := NB269_281.out
           have hms45_0 := NB281_254.out
           have hms45_1 := NB281_255.out
           have hms45_2 := NB281_269.out
           have hs46 : w43.cell? ⟨gb281, 2, none⟩ = some (.int .i64 0) := (blk_cell BK281.out 2).trans rfl
           have hfs46 := blk_frozen BK281.out 2
           have hns46_0 := NB254_281.out
           have hns46_1 := NB255_281.out
           have hns46_2 := NB269_281.out
           have hms46_0 := NB281_254.out
           have hms46_1 := NB281_255.out
           have hms46_2 := NB281_269.out
           have hs48 : w43.cell? ⟨gb281, 3, none⟩ = some (.slice none 0 0) := (blk_cell BK281.out 3).trans rfl
           have hfs48 := blk_frozen BK281.out 3
           have hns48_0 := NB254_281.out
           have hns48_1 := NB255_281.out
           have hns48_2 := NB269_281.out
           have hms48_0 := NB281_254.out
           have hms48_1 := NB281_255.out
           have hms48_2 := NB281_269.out
           refine skip_ (w1 := ?_) (by rfl) rfl ?_ ?_
           rotate_left
           ·go_simp
            rfl
           refine hK.out _ _ ⟨((cell_far (p := ⟨gb281, _, none⟩) NB254_281.out _).trans (((cell_far (p := ⟨gb281, _, none⟩) NB254_281.out _).trans (((cell_far (p := ⟨gb281, _, none⟩) NB254_281.out _).trans (((cell_far (p := ⟨gb281, _, none⟩) NB254_281.out _).trans (hHeld.1)))))))), ((cell_far (p := ⟨gb281, _, none⟩) NB254_281.out _).trans (((cell_far (p := ⟨gb281, _, none⟩) NB254_281.out _).trans (((cell_far (p := ⟨gb281, _, none⟩) NB254_281.out _).trans (((cell_far (p := ⟨gb281, _, none⟩) NB254_281.out _).trans (hHeld.2.1)))))))), ((cell_far (p := ⟨gb281, _, none⟩) (by first | exact Kd.own_blk (Kd.R_ne HO_10.out BK281.out (by decide)) | (rw [add_block]; exact Kd.own_blk (Kd.R_ne HO_10.out BK281.out (by decide))) | (show (Addr.add _ _).block ≠ _; rw [add_block]; exact Kd.own_blk (Kd.R_ne HO_10.out BK281.out (by decide))) | (dsimp only; exact Kd.own_blk (Kd.R_ne HO_10.out BK281.out (by decide)))) _).trans (((cell_far (p := ⟨gb281, _, none⟩) (by first | exact Kd.own_blk (Kd.R_ne HO_10.out BK281.out (by decide)) | (rw [add_block]; exact Kd.own_blk (Kd.R_ne HO_10.out BK281.out (by decide))) | (show (Addr.add _ _).block ≠ _; rw [add_block]; exact Kd.own_blk (Kd.R_ne HO_10.out BK281.out (by decide))) | (dsimp only; exact Kd.own_blk (Kd.R_ne HO_10.out BK281.out (by decide)))) _).trans (((cell_far (p := ⟨gb281, _, none⟩) (by first | exact Kd.own_blk (Kd.R_ne HO_10.out BK281.out (by decide)) | (rw [add_block]; exact Kd.own_blk (Kd.R_ne HO_10.out BK281.out (by decide))) | (show (Addr.add _ _).block ≠ _; rw [add_block]; exact Kd.own_blk (Kd.R_ne HO_10.out BK281.out (by decide))) | (dsimp only; exact Kd.own_blk (Kd.R_ne HO_10.out BK281.out (by decide)))) _).trans (((cell_far (p := ⟨gb281, _, none⟩) (by first | exact Kd.own_blk (Kd.R_ne HO_10.out BK281.out (by decide)) | (rw [add_block]; exact Kd.own_blk (Kd.R_ne HO_10.out BK281.out (by decide))) | (show (Addr.add _ _).block ≠ _; rw [add_block]; exact Kd.own_blk (Kd.R_ne HO_10.out BK281.out (by decide))) | (dsimp only; exact Kd.own_blk (Kd.R_ne HO_10.out BK281.out (by decide)))) _).trans (hHeld.2.2))))))))⟩ (fun hHeld => ?_)
           clear hK K
           refine pv (v := ?_) (a' := ?_) HT_.out 15 (some 16) m89_20_ ?_ ?_ ?_; rotate_left 2; (·intro w'; go_simp; with_reducible rfl); (·simp only [Act.put, s1, s2, s3, i64_w, i32_w]; rfl)
           refine done_ (done_of HT_.out (by kernel_rfl)) ?_
           have n0_ : Aside0 (Kd.R (Kd.int .i64) 3 ((((w43.setCell ⟨gb281, 0, none⟩ (.int .i64 t274)).setCell ⟨gb281, 1, none⟩ (.int .i64 t275)).setCell ⟨gb281, 2, none⟩ (.int .i64 t276)).setCell ⟨gb281, 3, none⟩ (.slice Ao47 t277.length co47)) w.heap.size (fun _ => True) (.slice (some ad271) t265.length co39) t265) := ⟨by (with_reducible repeat (first | apply Kd.R_alloc | apply Kd.R_drewN | apply Kd.R_drew)); exact Kd.R_mono (Kd.R_far (p := ⟨gb281, 3, none⟩) (Kd.R_far (p := ⟨gb281, 2, none⟩) (Kd.R_far (p := ⟨gb281, 1, none⟩) (Kd.R_far (p := ⟨gb281, 0, none⟩) (Kd.R_types HO_10.out BK281.out (by decide)) (fun _ hk => hk.2) (.int .i64 t274)) (fun _ hk => hk.2) (.int .i64 t275)) (fun _ hk => hk.2) (.int .i64 t276)) (fun _ hk => hk.2) (.slice Ao47 t277.length co47)) (fun _ hk => trivial)⟩
           have n1_ : Aside0 (Kd.R k31 31 ((((w43.setCell ⟨gb281, 0, none⟩ (.int .i64 t274)).setCell ⟨gb281, 1, none⟩ (.int .i64 t275)).setCell ⟨gb281, 2, none⟩ (.int .i64 t276)).setCell ⟨gb281, 3, none⟩ (.slice Ao47 t277.length co47)) w.heap.size (fun k_ => some k_ ≠ (.slice Ao47 t277.length co47 : Value).ownBlock ∧ k_ ≠ gb255 ∧ k_ ≠ gb269 ∧ k_ ≠ gb281) u270003 x270003_1) := ⟨by (with_reducible repeat (first | apply Kd.R_alloc | apply Kd.R_drewN | apply Kd.R_drew)); exact Kd.R_mono (Kd.R_far (p := ⟨gb281, 3, none⟩) (Kd.R_far (p := ⟨gb281, 2, none⟩) (Kd.R_far (p := ⟨gb281, 1, none⟩) (Kd.R_far (p := ⟨gb281, 0, none⟩) (Kd.R_mono HO_270003.out (fun k_ hk => (⟨hk, hk.2.2.2⟩ : _ ∧ k_ ≠ gb281))) (fun _ hk => hk.2) (.int .i64 t274)) (fun _ hk => hk.2) (.int .i64 t275)) (fun _ hk => hk.2) (.int .i64 t276)) (fun _ hk => hk.2) (.slice Ao47 t277.length co47)) (fun _ hk => ⟨hk.1.1, ⟨hk.1.2.1, ⟨hk.1.2.2.1, hk.1.2.2.2⟩⟩⟩)⟩
           have n2_ : Aside0 (Kd.R k31 31 ((((w43.setCell ⟨gb281, 0, none⟩ (.int .i64 t274)).setCell ⟨gb281, 1, none⟩ (.int .i64 t275)).setCell ⟨gb281, 2, none⟩ (.int .i64 t276)).setCell ⟨gb281, 3, none⟩ (.slice Ao47 t277.length co47)) w.heap.size (fun k_ => some k_ ≠ (u270003 : Value).ownBlock ∧ k_ ≠ gb255 ∧ k_ ≠ gb269 ∧ k_ ≠ gb281) (.slice Ao47 t277.length co47) t277) := ⟨by (with_reducible repeat (first | apply Kd.R_alloc | apply Kd.R_drewN | apply Kd.R_drew)); exact Kd.R_mono (Kd.R_far (p := ⟨gb281, 3, none⟩) (Kd.R_far (p := ⟨gb281, 2, none⟩) (Kd.R_far (p := ⟨gb281, 1, none⟩) (Kd.R_far (p := ⟨gb281, 0, none⟩) (Kd.R_mono HO279.out (fun k_ hk => (⟨hk, hk.2.2.2⟩ : _ ∧ k_ ≠ gb281))) (fun _ hk => hk.2) (.int .i64 t274)) (fun _ hk => hk.2) (.int .i64 t275)) (fun _ hk => hk.2) (.int .i64 t276)) (fun _ hk => hk.2) (.slice Ao47 t277.length co47)) (fun _ hk => ⟨hk.1.1, ⟨hk.1.2.1, ⟨hk.1.2.2.1, hk.1.2.2.2⟩⟩⟩)⟩
           have n3_ : Aside0 (((((w43.setCell ⟨gb281, 0, none⟩ (.int .i64 t274)).setCell ⟨gb281, 1, none⟩ (.int .i64 t275)).setCell ⟨gb281, 2, none⟩ (.int .i64 t276)).setCell ⟨gb281, 3, none⟩ (.slice Ao47 t277.length co47)).heap[gb254]? = some (.cells #[.int .i64 a0_0, .int .i64 a0_1] 83 (0, 0))) := ⟨by exact (blk_far (blk_far (blk_far (blk_far BK254.out NB254_281.out _) NB254_281.out _) NB254_281.out _) NB254_281.out _)⟩
           have n4_ : Aside0 (((((w43.setCell ⟨gb281, 0, none⟩ (.int .i64 t274)).setCell ⟨gb281, 1, none⟩ (.int .i64 t275)).setCell ⟨gb281, 2, none⟩ (.int .i64 t276)).setCell ⟨gb281, 3, none⟩ (.slice Ao47 t277.length co47)).heap[gb255]? = some (.cells #[.int .i64 x256000_1, .int .i64 x256001_1, .int .i64 x256002_1, .slice none 0 0] 31 (0, 0))) := ⟨by exact (blk_far (blk_far (blk_far (blk_far BK255.out NB255_281.out _) NB255_281.out _) NB255_281.out _) NB255_281.out _)⟩
           have n5_ : Aside0 (((((w43.setCell ⟨gb281, 0, none⟩ (.int .i64 t274)).setCell ⟨gb281, 1, none⟩ (.int .i64 t275)).setCell ⟨gb281, 2, none⟩ (.int .i64 t276)).setCell ⟨gb281, 3, none⟩ (.slice Ao47 t277.length co47)).heap[gb269]? = some (.cells #[.int .i64 a1, .int .i64 0, .int .i64 0, u270003] 31 (0, 0))) := ⟨by exact (blk_far (blk_far (blk_far (blk_far BK269.out NB269_281.out _) NB269_281.out _) NB269_281.out _) NB269_281.out _)⟩
           have n6_ : Aside0 (((((w43.setCell ⟨gb281, 0, none⟩ (.int .i64 t274)).setCell ⟨gb281, 1, none⟩ (.int .i64 t275)).setCell ⟨gb281, 2, none⟩ (.int .i64 t276)).setCell ⟨gb281, 3, none⟩ (.slice Ao47 t277.length co47)).heap[gb281]? = some (.cells #[.int .i64 t274, .int .i64 t275, .int .i64 t276, .slice Ao47 t277.length co47] 31 (0, 0))) := ⟨by exact (put4 BK281.out)⟩
           have n7_ : Aside0 (Below w.heap.size w ((((w43.setCell ⟨gb281, 0, none⟩ (.int .i64 t274)).setCell ⟨gb281, 1, none⟩ (.int .i64 t275)).setCell ⟨gb281, 2, none⟩ (.int .i64 t276)).setCell ⟨gb281, 3, none⟩ (.slice Ao47 t277.length co47))) := ⟨by repeat first | refine zS ?_ GE254.out | refine zS ?_ GE255.out | refine zS ?_ GE269.out | refine zS ?_ GE281.out | exact HB.out | apply zA | apply zN | apply zD⟩
           (try clear HO_10)
           (try clear HO_270003)
           (try clear HO279)
           (try clear BK254)
           (try clear BK255)
           (try clear BK269)
           (try clear BK281)
           (try clear HB)
           generalize ((((w43.setCell ⟨gb281, 0, none⟩ (.int .i64 t274)).setCell ⟨gb281, 1, none⟩ (.int .i64 t275)).setCell ⟨gb281, 2, none⟩ (.int .i64 t276)).setCell ⟨gb281, 3, none⟩ (.slice Ao47 t277.length co47)) = w49 at n0_ n1_ n2_ n3_ n4_ n5_ n6_ n7_ ⊢
           have HO_10 := n0_
           have HO_270003 := n1_
           have HO279 := n2_
           have BK254 := n3_
           have BK255 := n4_
           have BK269 := n5_
           have BK281 := n6_
           have HB := n7_
           clear n0_ n1_ n2_ n3_ n4_ n5_ n6_ n7_
           have p282 : 0 ≤ (x44_1 : Int) := of_decide_eq_true (by first | (with_reducible assumption) | assumption)
           have q282 : x44_1 < (t265.length : Int) := of_decide_eq_true (by first | (with_reducible assumption) | assumption)
           obtain ⟨ad282, e282, hx282_0⟩ := Kd.at_int (Kd.R_reads' HO_10.out).2.2 x44_1 p282 q282
           obtain rfl : ad271 = ad282 := (by injection e282)
           replace p282 := eq_true p282
           replace q282 := eq_true q282
           have hnb50 := NB281_254.out
           have hnc50 := NB254_281.out
           have hnb51 := NB281_255.out
           have hnc51 := NB255_281.out
           have hnb52 := NB281_269.out
           have hnc52 := NB269_281.out
           have hcz53_0 : w49.cell? ⟨gb281, 0, none⟩ = some (.int .i64 t274) := (blk_cell BK281.out 0).trans rfl
           have hcz53_1 : w49.cell? ⟨gb281, 1, none⟩ = some (.int .i64 t275) := (blk_cell BK281.out 1).trans rfl
           have hcz53_2 : w49.cell? ⟨gb281, 2, none⟩ = some (.int .i64 t276) := (blk_cell BK281.out 2).trans rfl
           have hcz53_3 : w49.cell? ⟨gb281, 3, none⟩ = some (.slice Ao47 t277.length co47) := (blk_cell BK281.out 3).trans rfl
           have hfz53_0 := blk_frozen BK281.out 0
           have hfz53_1 := blk_frozen BK281.out 1
           have hfz53_2 := blk_frozen BK281.out 2
           have hfz53_3 := blk_frozen BK281.out 3
           try go_wp2_with (first | ((with_reducible refine gate_store (t := 3) (p := 69) rfl ?_); refine store_event (t := 3) (p := 69) (v := ?vo_w54) (w1 := (w49.setCell ⟨gb281, 2, none⟩ (.int .i64 (rd t265 x44_1)))) ?hg ?ho ?hn ?hr ?_; (case ho => rfl); (case hg => rfl); (case hn => rfl); (case hr => first | (go_simp; done) | (go_simp; rfl)); intro w54 hw; have n0_ : Aside0 (Kd.R (Kd.int .i64) 3 w54 w.heap.size (fun _ => True) (.slice (some ad271) t265.length co39) t265) := ⟨(by rw [hw]; exact (by (with_reducible repeat (first | apply Kd.R_alloc | apply Kd.R_drewN | apply Kd.R_drew)); exact Kd.R_mono (Kd.R_far (p := ⟨gb281, 2, none⟩) (Kd.R_types HO_10.out BK281.out (by decide)) (fun _ hk => hk.2) (.int .i64 (rd t265 x44_1))) (fun _ hk => trivial)))⟩; have n1_ : Aside0 (Kd.R k31 31 w54 w.heap.size (fun k_ => some k_ ≠ (.slice Ao47 t277.length co47 : Value).ownBlock ∧ k_ ≠ gb255 ∧ k_ ≠ gb269 ∧ k_ ≠ gb281) u270003 x270003_1) := ⟨(by rw [hw]; exact (by (with_reducible repeat (first | apply Kd.R_alloc | apply Kd.R_drewN | apply Kd.R_drew)); exact Kd.R_mono (Kd.R_far (p := ⟨gb281, 2, none⟩) (Kd.R_mono HO_270003.out (fun k_ hk => (⟨hk, hk.2.2.2⟩ : _ ∧ k_ ≠ gb281))) (fun _ hk => hk.2) (.int .i64 (rd t265 x44_1))) (fun _ hk => ⟨hk.1.1, ⟨hk.1.2.1, ⟨hk.1.2.2.1, hk.1.2.2.2⟩⟩⟩)))⟩; have n2_ : Aside0 (Kd.R k31 31 w54 w.heap.size (fun k_ => some k_ ≠ (u270003 : Value).ownBlock ∧ k_ ≠ gb255 ∧ k_ ≠ gb269 ∧ k_ ≠ gb281) (.slice Ao47 t277.length co47) t277) := ⟨(by rw [hw]; exact (by (with_reducible repeat (first | apply Kd.R_alloc | apply Kd.R_drewN | apply Kd.R_drew)); exact Kd.R_mono (Kd.R_far (p := ⟨gb281, 2, none⟩) (Kd.R_mono HO279.out (fun k_ hk => (⟨hk, hk.2.2.2⟩ : _ ∧ k_ ≠ gb281))) (fun _ hk => hk.2) (.int .i64 (rd t265 x44_1))) (fun _ hk => ⟨hk.1.1, ⟨hk.1.2.1, ⟨hk.1.2.2.1, hk.1.2.2.2⟩⟩⟩)))⟩; have n3_ : Aside0 (w54.heap[gb254]? = some (.cells #[.int .i64 a0_0, .int .i64 a0_1] 83 (0, 0))) := ⟨(by rw [hw]; exact (by exact (blk_far BK254.out NB254_281.out _)))⟩; have n4_ : Aside0 (w54.heap[gb255]? = some (.cells #[.int .i64 x256000_1, .int .i64 x256001_1, .int .i64 x256002_1, .slice none 0 0] 31 (0, 0))) := ⟨(by rw [hw]; exact (by exact (blk_far BK255.out NB255_281.out _)))⟩; have n5_ : Aside0 (w54.heap[gb269]? = some (.cells #[.int .i64 a1, .int .i64 0, .int .i64 0, u270003] 31 (0, 0))) := ⟨(by rw [hw]; exact (by exact (blk_far BK269.out NB269_281.out _)))⟩; have n6_ : Aside0 (w54.heap[gb281]? = some (.cells #[.int .i64 t274, .int .i64 t275, .int .i64 (rd t265 x44_1), .slice Ao47 t277.length co47] 31 (0, 0))) := ⟨(by rw [hw]; exact (by exact (blk_put BK281.out 2 _ rfl)))⟩; have n7_ : Aside0 (Below w.heap.size w w54) := ⟨(by rw [hw]; exact (by repeat first | refine zS ?_ GE254.out | refine zS ?_ GE255.out | refine zS ?_ GE269.out | refine zS ?_ GE281.out | exact HB.out | apply zA | apply zN | apply zD))⟩; clear hw; clear HO_10; clear HO_270003; clear HO279; clear BK254; clear BK255; clear BK269; clear BK281; clear HB; have HO_10 := n0_; have HO_270003 := n1_; have HO279 := n2_; have BK254 := n3_; have BK255 := n4_; have BK269 := n5_; have BK281 := n6_; have HB := n7_; clear n0_ n1_ n2_ n3_ n4_ n5_ n6_ n7_; have hnb55 := NB269_254.out; have hnc55 := NB254_269.out; have hnb56 := NB269_255.out; have hnc56 := NB255_269.out; obtain ⟨hcz57_0, hcz57_1, hcz57_2, hcz57_3, hfz57_0, hfz57_1, hfz57_2, hfz57_3⟩ := cz4 BK269.out; obtain ⟨hcz58_0, hcz58_1, hcz58_2, hcz58_3, hfz58_0, hfz58_1, hfz58_2, hfz58_3⟩ := cz4 BK281.out) | ((with_reducible refine gate_builtin (b := .append) (xs := #[.tmp 71, .tmp 73]) rfl ?_); at_builtin; refine Kd.R_append k31 (w0 := w) w.heap.size rfl (.tmp 71) (.tmp 73) 29 31 (.agg #[(.int .i64 0), (.int .i64 0), (.int .i64 0), (.slice none 0 0)]) 48 rfl Try.underlying29 info31 rfl (by decide) (by omega) u270003 x270003_1 (⟨t274, t275, rd t265 x44_1, t277⟩ : S31) [.int .i64 t274, .int .i64 t275, .int .i64 (rd t265 x44_1), .slice Ao47 t277.length co47] (fun k_ => k_ ≠ gb255 ∧ k_ ≠ gb269 ∧ k_ ≠ gb281) (fun k_ => ((fun k_ => k_ ≠ gb255 ∧ k_ ≠ gb269 ∧ k_ ≠ gb281)) k_ ∧ some k_ ≠ (u270003 : Value).ownBlock) rfl rfl ?aP (fun _ hk => hk) ?aF ?aO ?aB ?aS ?aL ?_; (case aP => exact k31_mkM _ _ _ (⟨t274, t275, rd t265 x44_1, t277⟩ : S31) (Kd.R_mono (HO279.out) (fun k_ hk => ⟨⟨hk.2.1, ⟨hk.2.2.1, hk.2.2.2⟩⟩, hk.1⟩))); (case aB => exact (by repeat first | refine zS ?_ GE254.out | refine zS ?_ GE255.out | refine zS ?_ GE269.out | refine zS ?_ GE281.out | exact HB.out | apply zA | apply zN | apply zD)); (case aF => exact (fun k_ hk => ⟨Kd.freshB (g := gb255) (o := .cells #[.int .i64 x256000_1, .int .i64 x256001_1, .int .i64 x256002_1, .slice none 0 0] 31 (0, 0)) (by (with_reducible repeat (first | refine blk_drewN ?_ _ | refine blk_drew ?_ | refine blk_alloc ?_ _)); exact BK255.out) k_ hk, Kd.freshB (g := gb269) (o := .cells #[.int .i64 a1, .int .i64 0, .int .i64 0, u270003] 31 (0, 0)) (by (with_reducible repeat (first | refine blk_drewN ?_ _ | refine blk_drew ?_ | refine blk_alloc ?_ _)); exact BK269.out) k_ hk, Kd.freshB (g := gb281) (o := .cells #[.int .i64 t274, .int .i64 t275, .int .i64 (rd t265 x44_1), .slice Ao47 t277.length co47] 31 (0, 0)) (by (with_reducible repeat (first | refine blk_drewN ?_ _ | refine blk_drew ?_ | refine blk_alloc ?_ _)); exact BK281.out) k_ hk⟩)); (case aO => exact (by (with_reducible repeat (first | apply Kd.R_alloc | apply Kd.R_drewN | apply Kd.R_drew)); exact Kd.R_mono HO_270003.out (fun _ hk => ⟨hk.2.1, ⟨hk.2.2.1, hk.2.2.2⟩⟩))); (case aS => exact (below_size (by repeat first | refine zS ?_ GE254.out | refine zS ?_ GE255.out | refine zS ?_ GE269.out | refine zS ?_ GE281.out | exact HB.out | apply zA | apply zN | apply zD))); (case aL => have := LMc37.out; omega); intro v284 w59 ho hb hg hat; rw [← Ny283.out] at ho; have n0_ := zM (Kd.R_over' (by (with_reducible repeat (first | apply Kd.R_alloc | apply Kd.R_drewN | apply Kd.R_drew)); exact HO_10.out) (Kd.R_typed (by (with_reducible repeat (first | apply Kd.R_alloc | apply Kd.R_drewN | apply Kd.R_drew)); exact HO_270003.out)) (by decide) hg); have n1_ := zM (blk_grown (g := gb254) (o := .cells #[.int .i64 a0_0, .int .i64 a0_1] 83 (0, 0)) (by (with_reducible repeat (first | refine blk_drewN ?_ _ | refine blk_drew ?_ | refine blk_alloc ?_ _)); exact BK254.out) hg (Kd.R_ne HO_270003.out BK254.out (by decide))); have n2_ := zM (blk_grown (g := gb255) (o := .cells #[.int .i64 x256000_1, .int .i64 x256001_1, .int .i64 x256002_1, .slice none 0 0] 31 (0, 0)) (by (with_reducible repeat (first | refine blk_drewN ?_ _ | refine blk_drew ?_ | refine blk_alloc ?_ _)); exact BK255.out) hg (Kd.R_away HO_270003.out (fun _ hk => hk.2.1))); have n3_ := zM (blk_grown (g := gb269) (o := .cells #[.int .i64 a1, .int .i64 0, .int .i64 0, u270003] 31 (0, 0)) (by (with_reducible repeat (first | refine blk_drewN ?_ _ | refine blk_drew ?_ | refine blk_alloc ?_ _)); exact BK269.out) hg (Kd.R_away HO_270003.out (fun _ hk => hk.2.2.1))); have n4_ := zM (blk_grown (g := gb281) (o := .cells #[.int .i64 t274, .int .i64 t275, .int .i64 (rd t265 x44_1), .slice Ao47 t277.length co47] 31 (0, 0)) (by (with_reducible repeat (first | refine blk_drewN ?_ _ | refine blk_drew ?_ | refine blk_alloc ?_ _)); exact BK281.out) hg (Kd.R_away HO_270003.out (fun _ hk => hk.2.2.2))); have n5_ := zM (hb); have n6_ := zM (ho); clear HO_10; clear BK254; clear BK255; clear BK269; clear BK281; clear HB; clear HO_270003; clear HO279; have HO_10 := n0_; have BK254 := n1_; have BK255 := n2_; have BK269 := n3_; have BK281 := n4_; have HB := n5_; have HO285 := n6_; clear n0_ n1_ n2_ n3_ n4_ n5_ n6_; clear ho hb hg hat; obtain ⟨Ao60, co60, eo60⟩ := Kd.R_slice HO285.out; subst eo60; obtain ⟨hcz61_0, hcz61_1, hcz61_2, hcz61_3, hfz61_0, hfz61_1, hfz61_2, hfz61_3⟩ := cz4 BK269.out))
           go_roundg k1
           case measure => have := HK1.out; omega
           case rel => exact ⟨(wrap64 (x44_1 + 1)), (x256000_1), (x256001_1), (x256002_1), (y283), (.slice Ao60 y283.length co60), (by first | rfl | (simp; done) | (simp [*]; done)), H', ⟨by have := HK1.out; omega⟩, ⟨by (with_reducible repeat (first | apply Kd.R_alloc | apply Kd.R_drewN | apply Kd.R_drew)); exact Kd.R_mono (Kd.R_far (p := ⟨gb269, 3, none⟩) (Kd.R_types HO_10.out BK269.out (by decide)) (fun _ hk => hk.2) (.slice Ao60 y283.length co60)) (fun _ hk => trivial)⟩, ⟨by (with_reducible repeat (first | apply Kd.R_alloc | apply Kd.R_drewN | apply Kd.R_drew)); exact Kd.R_mono (Kd.R_far (p := ⟨gb269, 3, none⟩) (Kd.R_mono HO285.out (fun k_ hk => (⟨hk, hk.2.1⟩ : _ ∧ k_ ≠ gb269))) (fun _ hk => hk.2) (.slice Ao60 y283.length co60)) (fun _ hk => ⟨hk.1.1, hk.1.2.1⟩)⟩, ⟨by exact (blk_far BK254.out NB254_269.out _)⟩, ⟨by exact (blk_far BK255.out NB255_269.out _)⟩, ⟨by exact (blk_put BK269.out 3 _ rfl)⟩, ⟨by repeat first | refine zS ?_ GE254.out | refine zS ?_ GE255.out | refine zS ?_ GE269.out | refine zS ?_ GE281.out | exact HB.out | apply zA | apply zN | apply zD⟩⟩
          ·rw [if_neg c37] at H
           exact absurd H (by simp)
         ·replace c36 := Bool.eq_false_iff.mpr c36
          subst c36
          have H1 : (some (0, 0, 0, ([] : List (S31)), false)) = some (r1, r2, r3, r4, r5) := by rw [if_neg (show ¬ (false = true) by decide)] at H; exact H
          clear H
          have H := H1
          clear H1
          simp only [Option.some.injEq, Prod.mk.injEq] at H
          obtain ⟨rfl, rfl, rfl, rfl, rfl⟩ := H
          have p270 : 0 ≤ (x44_1 : Int) := of_decide_eq_true (by first | (with_reducible assumption) | assumption)
          have q270 : x44_1 < (l2.length : Int) := of_decide_eq_true (by first | (with_reducible assumption) | assumption)
          obtain ⟨ad270, A270_0, c270_0, e270, hx270_0, hl270_0, hi270_0⟩ := at_L2 HR2.out x44_1 p270 q270
          cases e270
          replace hx270_0 := (HB.out.cell (zL w _ hx270_0)).trans hx270_0
          have HR270_0 := zM hi270_0
          have HC270_0 := zM hl270_0
          clear hi270_0 hl270_0
          replace p270 := eq_true p270
          replace q270 := eq_true q270
          try go_wp2
          replace HO_10 := zM (Kd.R_drew HO_10.out); replace HO_270003 := zM (Kd.R_drew HO_270003.out); replace BK254 := zM (blk_drew BK254.out); replace BK255 := zM (blk_drew BK255.out); replace BK269 := zM (blk_drew BK269.out); replace HB := zM (zD HB.out)
          obtain ⟨Ao63, co63, eo63⟩ := Kd.R_slice HO_10.out
          (first | subst eo63 | (injection eo63 with f1_ f2_ f3_; have f4_ := f1_.symm; have f5_ := f3_.symm; clear f1_ f2_ f3_; subst f4_; subst f5_))
          have p271 : 0 ≤ (x44_1 : Int) := of_decide_eq_true (by first | (with_reducible assumption) | assumption)
          have q271 : x44_1 < (t265.length : Int) := of_decide_eq_true (by first | (with_reducible assumption) | assumption)
          obtain ⟨ad271, e271, hx271_0⟩ := Kd.at_int (Kd.R_reads' HO_10.out).2.2 x44_1 p271 q271
          cases e271
          replace p271 := eq_true p271
          replace q271 := eq_true q271
          refine start_ (n := 16) (S := fun w' => w'.cell? ⟨gb254, 0, none⟩ = some (.int .i64 a0_0) ∧ w'.cell? ⟨gb254, 1, none⟩ = some (.int .i64 a0_1) ∧ w'.cell? (ad271.add (x44_1).toNat) = some (.int .i64 (rd t265 x44_1))) (ds := []) #[false, false, false, false, false, false, false, false, false, false, false, false, false, false, false, false] (by kernel_rfl) rfl rfl ⟨(blk_cell BK254.out 0).trans rfl, (blk_cell BK254.out 1).trans rfl, hx271_0⟩ (fun hHeld => ?_); refine with_tabW preset_sharedG.tab10 preset_sharedG.bits10 (fun HT_ HW_ => ?_)
          generalize wr.drew = w62 at HO_10 HO_270003 BK254 BK255 BK269 HB hx271_0 hHeld ⊢
          refine pv (v := ?_) (a' := ?_) HT_.out 0 (some 50) m89_0_ ?_ ?_ ?_; rotate_left 2; (·intro w'; go_simp; with_reducible rfl); (·simp only [Act.put, s1, s2, s3, i64_w, i32_w]; rfl)
          refine pv (v := ?_) (a' := ?_) HT_.out 2 (some 52) m89_1_ ?_ ?_ ?_; rotate_left 2; (·intro w'; go_simp; with_reducible rfl); (·simp only [Act.put, s1, s2, s3, i64_w, i32_w]; rfl)
          refine pv (v := ?_) (a' := ?_) HT_.out 3 (some 53) m89_2_ ?_ ?_ ?_; rotate_left 2; (·intro w'; go_simp; with_reducible rfl); (·simp only [Act.put, s1, s2, s3, i64_w, i32_w]; rfl)
          refine pv (v := ?_) (a' := ?_) HT_.out 4 (some 54) m89_3_ ?_ ?_ ?_; rotate_left 2; (·intro w'; go_simp; with_reducible rfl); (·simp only [Act.put, s1, s2, s3, i64_w, i32_w]; rfl)
          refine pv (v := ?_) (a' := ?_) HT_.out 5 (some 55) m89_4_ ?_ ?_ ?_; rotate_left 2; (·intro w'; go_simp; with_reducible rfl); (·simp only [Act.put, s1, s2, s3, i64_w, i32_w]; rfl)
          refine pv (v := ?_) (a' := ?_) HT_.out 8 (some 58) m89_5_ ?_ ?_ ?_; rotate_left 2; (·intro w'; go_simp; with_reducible rfl); (·simp only [Act.put, s1, s2, s3, i64_w, i32_w]; rfl)
          refine take_ (i := 1) (N := some 51) (v := ?_) (a' := ?_) m89_6_ rfl rfl (take_ofW HT_.out HW_.out (by kernel_rfl)) (fun _ _ _ h => h) (Or.inl ⟨by rfl, ?_⟩) hHeld ?_ ?_; rotate_left; (·rintro w' ⟨s0, s1, s2⟩; go_simp; with_reducible rfl); rotate_left; (·simp only [Act.put, s1, s2, s3, i64_w, i32_w]; rfl)
          refine take_ (i := 6) (N := some 56) (v := ?_) (a' := ?_) m89_7_ rfl rfl (take_ofW HT_.out HW_.out (by kernel_rfl)) (fun _ _ _ h => h) (Or.inl ⟨by rfl, ?_⟩) hHeld ?_ ?_; rotate_left; (·rintro w' ⟨s0, s1, s2⟩; go_simp; with_reducible rfl); rotate_left; (·simp only [Act.put, s1, s2, s3, i64_w, i32_w]; rfl)
          refine join_ (σ := Value × Nat) 2 m89_8_ (fun s_ => [(57, .agg #[.int .i64 t272, .int .i64 t273]), (59, .tuple #[.agg #[.int .i64 t274, .int .i64 t275, .int .i64 t276, s_.1], .bool false]), (15, .pointer (some ⟨s_.2, 0, none⟩)), (49, .tuple #[.agg #[.int .i64 t274, .int .i64 t275, .int .i64 t276, s_.1], .bool false]), (60, .agg #[.int .i64 t274, .int .i64 t275, .int .i64 t276, s_.1]), (61, .bool false)]) (fun s_ w' => (w'.cell? ⟨gb254, 0, none⟩ = some (.int .i64 a0_0) ∧ w'.cell? ⟨gb254, 1, none⟩ = some (.int .i64 a0_1) ∧ w'.cell? (ad271.add (x44_1).toNat) = some (.int .i64 (rd t265 x44_1))) ∧ (Kd.R k31 31 w' w.heap.size (fun k_ => some k_ ≠ (u270003 : Value).ownBlock ∧ k_ ≠ gb255 ∧ k_ ≠ gb269 ∧ k_ ≠ s_.2) s_.1 t277) ∧ (Kd.R (Kd.int .i64) 3 w' w.heap.size (fun _ => True) (.slice (some ad271) t265.length co63) t265) ∧ (Kd.R k31 31 w' w.heap.size (fun k_ => some k_ ≠ (s_.1 : Value).ownBlock ∧ k_ ≠ gb255 ∧ k_ ≠ gb269 ∧ k_ ≠ s_.2) u270003 x270003_1) ∧ (w'.heap[gb254]? = some (.cells #[.int .i64 a0_0, .int .i64 a0_1] 83 (0, 0))) ∧ (w'.heap[gb255]? = some (.cells #[.int .i64 x256000_1, .int .i64 x256001_1, .int .i64 x256002_1, .slice none 0 0] 31 (0, 0))) ∧ (w'.heap[gb269]? = some (.cells #[.int .i64 a1, .int .i64 0, .int .i64 0, u270003] 31 (0, 0))) ∧ (w'.heap[s_.2]? = some (.cells #[.int .i64 0, .int .i64 0, .int .i64 0, .slice none 0 0] 31 (0, 0))) ∧ (w.heap.size ≤ s_.2) ∧ (w.heap.size ≤ s_.2) ∧ (gb254 ≠ s_.2) ∧ (s_.2 ≠ gb254) ∧ (gb255 ≠ s_.2) ∧ (s_.2 ≠ gb255) ∧ (gb269 ≠ s_.2) ∧ (s_.2 ≠ gb269) ∧ (Below w.heap.size w w')) ?_ ?_
          rotate_left
          ·intro hCont
           refine two_ (i := 7) (j := 13) (Ni := some 57) (Nj := some 15) m89_9_ m89_10_ rfl rfl rfl rfl (two_of HT_.out (by kernel_rfl)) (by decide) (by decide) (fun K hK => ?_) (fun K hK => ?_)
           ·skip
            refine goes_ Try.func120 (by kernel_rfl) rfl #[.agg #[.int .i64 a0_0, .int .i64 a0_1], .int .i64 a1, .int .i64 (rd t265 x44_1)] (by rfl) rfl rfl (by (try simp only [List.map_toArray, List.map_cons, List.map_nil]); first | done | rfl | (simp only [List.length_drop, List.length_take]; rfl)) ?_
            with_reducible refine (preset_size_with.calls a0_0 a0_1 a1 (rd t265 x44_1) t272 t273 _ A34.out).mono ?_
            rintro e w64 ⟨rfl, hb⟩
            have HS2_ := (hb.cell (zL _ _ (hHeld.2.2))).trans (hHeld.2.2)
            refine ⟨_, rfl, ?_⟩
            replace HO_10 := zM (Kd.R_below (by (with_reducible repeat (first | apply Kd.R_alloc | apply Kd.R_drewN | apply Kd.R_drew)); exact HO_10.out) hb); replace HO_270003 := zM (Kd.R_below (by (with_reducible repeat (first | apply Kd.R_alloc | apply Kd.R_drewN | apply Kd.R_drew)); exact HO_270003.out) hb); replace BK254 := zM (bb hb BK254.out); replace BK255 := zM (bb hb BK255.out); replace BK269 := zM (bb hb BK269.out); replace HB := zM (below_step (by repeat first | refine zS ?_ GE254.out | refine zS ?_ GE255.out | refine zS ?_ GE269.out | exact HB.out | apply zA | apply zN | apply zD) hb)
            (try clear hb)
            (try clear hb2)
            (try clear hk)
            (try clear hi)
            refine hK.out _ _ ⟨(blk_cell BK254.out 0).trans rfl, (blk_cell BK254.out 1).trans rfl, HS2_⟩ (fun hHeld => ?_)
            clear hK K
            refine norm_ (a' := ?_) ?_ ?_
            rotate_left
            ·show Act.put _ (some 57) _ = _
             simp only [Act.put, s1, s2, s3, i64_w, i32_w]
             rfl
            refine two_ (i := 9) (j := 13) (Ni := some 59) (Nj := some 15) m89_11_ m89_12_ rfl rfl rfl rfl (two_of HT_.out (by kernel_rfl)) (by decide) (by decide) (fun K hK => ?_) (fun K hK => ?_)
            ·skip
             refine goesV_ Y.hf Y.hn Y.hb #[.agg #[.int .i64 t272, .int .i64 t273], .slice A270_0 (rd_L2 l2 x44_1).length c270_0] (by rfl) rfl rfl rfl (by (try simp only [List.map_toArray, List.map_cons, List.map_nil]); first | done | rfl | (simp only [List.length_drop, List.length_take]; rfl)) ?_
             with_reducible refine (Y.calls k1 t272 t273 _ _ (rd_L2 l2 x44_1) t274 t275 t276 t277 false _ ?side1 ?side2 A35.out).mono ?_
             (case side1 => repeat (first | exact (Kd.C_below HR270_0.out HB.out) | (with_reducible refine Kd.C_alloc ?_ _) | (with_reducible refine Kd.C_drewN ?_ _) | (with_reducible refine Kd.C_drew ?_)))
             (case side2 => exact HC270_0.out)
             rintro e w65 ⟨v278, rfl, ho0, hb⟩
             have HS2_ := (hb.cell (zL _ _ (hHeld.2.2))).trans (hHeld.2.2)
             refine ⟨_, rfl, ?_⟩
             have HO279 := zM (Kd.R_lower (Kd.R_newB (Kd.R_newB (Kd.R_new' ho0 (Kd.R_lt (by (with_reducible repeat (first | apply Kd.R_alloc | apply Kd.R_drewN | apply Kd.R_drew)); exact HO_270003.out))) (g := gb255) (o := .cells #[.int .i64 x256000_1, .int .i64 x256001_1, .int .i64 x256002_1, .slice none 0 0] 31 (0, 0)) (by (with_reducible repeat (first | refine blk_drewN ?_ _ | refine blk_drew ?_ | refine blk_alloc ?_ _)); exact BK255.out)) (g := gb269) (o := .cells #[.int .i64 a1, .int .i64 0, .int .i64 0, u270003] 31 (0, 0)) (by (with_reducible repeat (first | refine blk_drewN ?_ _ | refine blk_drew ?_ | refine blk_alloc ?_ _)); exact BK269.out)) (below_size (by repeat first | refine zS ?_ GE254.out | refine zS ?_ GE255.out | refine zS ?_ GE269.out | exact HB.out | apply zA | apply zN | apply zD))); replace HO_10 := zM (Kd.R_below (by (with_reducible repeat (first | apply Kd.R_alloc | apply Kd.R_drewN | apply Kd.R_drew)); exact HO_10.out) hb); replace HO_270003 := zM (Kd.R_elder' (by (with_reducible repeat (first | apply Kd.R_alloc | apply Kd.R_drewN | apply Kd.R_drew)); exact HO_270003.out) (Kd.R_base ho0) hb); replace BK254 := zM (bb hb BK254.out); replace BK255 := zM (bb hb BK255.out); replace BK269 := zM (bb hb BK269.out); replace HB := zM (below_step (by repeat first | refine zS ?_ GE254.out | refine zS ?_ GE255.out | refine zS ?_ GE269.out | exact HB.out | apply zA | apply zN | apply zD) hb)
             (try clear hb)
             (try clear hb2)
             (try clear hk)
             (try clear hi)
             (try clear ho0)
             refine hK.out _ _ ⟨(blk_cell BK254.out 0).trans rfl, (blk_cell BK254.out 1).trans rfl, HS2_⟩ (fun hHeld => ?_)
             clear hK K
             refine norm_ (a' := ?_) ?_ ?_
             rotate_left
             ·show Act.put _ (some 59) _ = _
              simp only [Act.put, s1, s2, s3, i64_w, i32_w]
              rfl
             refine pv (v := ?_) (a' := ?_) HT_.out 10 (some 49) m89_13_ ?_ ?_ ?_; rotate_left 2; (·intro w'; go_simp; with_reducible rfl); (·simp only [Act.put, s1, s2, s3, i64_w, i32_w]; rfl)
             refine pv (v := ?_) (a' := ?_) HT_.out 11 (some 60) m89_14_ ?_ ?_ ?_; rotate_left 2; (·intro w'; go_simp; with_reducible rfl); (·simp only [Act.put, s1, s2, s3, i64_w, i32_w]; rfl)
             refine pv (v := ?_) (a' := ?_) HT_.out 12 (some 61) m89_15_ ?_ ?_ ?_; rotate_left 2; (·intro w'; go_simp; with_reducible rfl); (·simp only [Act.put, s1, s2, s3, i64_w, i32_w]; rfl)
             refine one_ (i := 13) (N := some 15) m89_8_ rfl rfl (one_of HT_.out (by kernel_rfl)) (by decide) (fun K hK => ?_)
             refine box_step ?hg (N := 15) ?hd (cs := #[.int .i64 0, .int .i64 0, .int .i64 0, .slice none 0 0]) (t := 31) ?hr ?_; (case hd => rfl); (case hg => rfl); (case hr => first | (go_simp; done) | (go_simp; rfl))
             intro gb281 hg w66 hbox hb
             have HS2_ := (hb.cell (zL _ _ (hHeld.2.2))).trans (hHeld.2.2)
             have BK281 := zM (hbox); have GW281 := zM ((by rw [hg]; exact (below_size (by repeat first | refine zS ?_ GE254.out | refine zS ?_ GE255.out | refine zS ?_ GE269.out | exact HB.out | apply zA | apply zN | apply zD)) : w.heap.size ≤ gb281)); have GE281 := GW281; have NB254_281 := zM ((by rw [hg]; exact lt1 BK254.out : gb254 ≠ gb281)); have NB281_254 := zM ((by rw [hg]; exact gt1 BK254.out : gb281 ≠ gb254)); have NB255_281 := zM ((by rw [hg]; exact lt1 BK255.out : gb255 ≠ gb281)); have NB281_255 := zM ((by rw [hg]; exact gt1 BK255.out : gb281 ≠ gb255)); have NB269_281 := zM ((by rw [hg]; exact lt1 BK269.out : gb269 ≠ gb281)); have NB281_269 := zM ((by rw [hg]; exact gt1 BK269.out : gb281 ≠ gb269)); replace HO_10 := zM (Kd.R_below (by (with_reducible repeat (first | apply Kd.R_alloc | apply Kd.R_drewN | apply Kd.R_drew)); exact HO_10.out) hb); replace HO_270003 := zM (Kd.R_below (Kd.R_elderB (by (with_reducible repeat (first | apply Kd.R_alloc | apply Kd.R_drewN | apply Kd.R_drew)); exact HO_270003.out) gb281 (Nat.le_of_eq hg.symm)) hb); replace HO279 := zM (Kd.R_below (Kd.R_elderB (by (with_reducible repeat (first | apply Kd.R_alloc | apply Kd.R_drewN | apply Kd.R_drew)); exact HO279.out) gb281 (Nat.le_of_eq hg.symm)) hb); replace BK254 := zM (bb hb BK254.out); replace BK255 := zM (bb hb BK255.out); replace BK269 := zM (bb hb BK269.out); replace HB := zM (below_step (by repeat first | refine zS ?_ GE254.out | refine zS ?_ GE255.out | refine zS ?_ GE269.out | exact HB.out | apply zA | apply zN | apply zD) hb)
             clear hb hbox hg
             refine hK.out _ _ ⟨(blk_cell BK254.out 0).trans rfl, (blk_cell BK254.out 1).trans rfl, HS2_⟩ (fun hHeld => ?_)
             clear hK K
             refine norm_ (a' := ?_) ?_ ?_
             rotate_left
             ·show Act.put _ (some 15) _ = _
              simp only [Act.put, s1, s2, s3, i64_w, i32_w]
              rfl
             exact norm_ (by simp only [putAll, Act.put, List.setIfInBounds_toArray, List.set_cons_zero, List.set_cons_succ]) (hCont (v278, gb281) _ ⟨hHeld, (by (with_reducible repeat (first | apply Kd.R_alloc | apply Kd.R_drewN | apply Kd.R_drew)); exact Kd.R_mono HO279.out (fun _ hk => ⟨hk.1.1.1.2, ⟨hk.1.1.2, ⟨hk.1.2, hk.2⟩⟩⟩)), (by (with_reducible repeat (first | apply Kd.R_alloc | apply Kd.R_drewN | apply Kd.R_drew)); exact HO_10.out), (by (with_reducible repeat (first | apply Kd.R_alloc | apply Kd.R_drewN | apply Kd.R_drew)); exact Kd.R_mono HO_270003.out (fun _ hk => ⟨hk.1.2, ⟨hk.1.1.1, ⟨hk.1.1.2, hk.2⟩⟩⟩)), (by (with_reducible repeat (first | refine blk_drewN ?_ _ | refine blk_drew ?_ | refine blk_alloc ?_ _)); exact BK254.out), (by (with_reducible repeat (first | refine blk_drewN ?_ _ | refine blk_drew ?_ | refine blk_alloc ?_ _)); exact BK255.out), (by (with_reducible repeat (first | refine blk_drewN ?_ _ | refine blk_drew ?_ | refine blk_alloc ?_ _)); exact BK269.out), (by (with_reducible repeat (first | refine blk_drewN ?_ _ | refine blk_drew ?_ | refine blk_alloc ?_ _)); exact BK281.out), GW281.out, GE281.out, NB254_281.out, NB281_254.out, NB255_281.out, NB281_255.out, NB269_281.out, NB281_269.out, (by repeat first | refine zS ?_ GE254.out | refine zS ?_ GE255.out | refine zS ?_ GE269.out | refine zS ?_ GE281.out | exact HB.out | apply zA | apply zN | apply zD)⟩)
            ·skip
             refine box_step ?hg (N := 15) ?hd (cs := #[.int .i64 0, .int .i64 0, .int .i64 0, .slice none 0 0]) (t := 31) ?hr ?_; (case hd => rfl); (case hg => rfl); (case hr => first | (go_simp; done) | (go_simp; rfl))
             intro gb281 hg w65 hbox hb
             have HS2_ := (hb.cell (zL _ _ (hHeld.2.2))).trans (hHeld.2.2)
             have BK281 := zM (hbox); have GW281 := zM ((by rw [hg]; exact (below_size (by repeat first | refine zS ?_ GE254.out | refine zS ?_ GE255.out | refine zS ?_ GE269.out | exact HB.out | apply zA | apply zN | apply zD)) : w.heap.size ≤ gb281)); have GE281 := GW281; have NB254_281 := zM ((by rw [hg]; exact lt1 BK254.out : gb254 ≠ gb281)); have NB281_254 := zM ((by rw [hg]; exact gt1 BK254.out : gb281 ≠ gb254)); have NB255_281 := zM ((by rw [hg]; exact lt1 BK255.out : gb255 ≠ gb281)); have NB281_255 := zM ((by rw [hg]; exact gt1 BK255.out : gb281 ≠ gb255)); have NB269_281 := zM ((by rw [hg]; exact lt1 BK269.out : gb269 ≠ gb281)); have NB281_269 := zM ((by rw [hg]; exact gt1 BK269.out : gb281 ≠ gb269)); replace HO_10 := zM (Kd.R_below (by (with_reducible repeat (first | apply Kd.R_alloc | apply Kd.R_drewN | apply Kd.R_drew)); exact HO_10.out) hb); replace HO_270003 := zM (Kd.R_below (Kd.R_elderB (by (with_reducible repeat (first | apply Kd.R_alloc | apply Kd.R_drewN | apply Kd.R_drew)); exact HO_270003.out) gb281 (Nat.le_of_eq hg.symm)) hb); replace BK254 := zM (bb hb BK254.out); replace BK255 := zM (bb hb BK255.out); replace BK269 := zM (bb hb BK269.out); replace HB := zM (below_step (by repeat first | refine zS ?_ GE254.out | refine zS ?_ GE255.out | refine zS ?_ GE269.out | exact HB.out | apply zA | apply zN | apply zD) hb)
             clear hb hbox hg
             refine hK.out _ _ ⟨(blk_cell BK254.out 0).trans rfl, (blk_cell BK254.out 1).trans rfl, HS2_⟩ (fun hHeld => ?_)
             clear hK K
             refine norm_ (a' := ?_) ?_ ?_
             rotate_left
             ·show Act.put _ (some 15) _ = _
              simp only [Act.put, s1, s2, s3, i64_w, i32_w]
              rfl
             refine one_ (i := 9) (N := some 59) m89_16_ rfl rfl (one_of HT_.out (by kernel_rfl)) (by decide) (fun K hK => ?_)
             refine goesV_ Y.hf Y.hn Y.hb #[.agg #[.int .i64 t272, .int .i64 t273], .slice A270_0 (rd_L2 l2 x44_1).length c270_0] (by rfl) rfl rfl rfl (by (try simp only [List.map_toArray, List.map_cons, List.map_nil]); first | done | rfl | (simp only [List.length_drop, List.length_take]; rfl)) ?_
             with_reducible refine (Y.calls k1 t272 t273 _ _ (rd_L2 l2 x44_1) t274 t275 t276 t277 false _ ?side1 ?side2 A35.out).mono ?_
             (case side1 => repeat (first | exact (Kd.C_below HR270_0.out HB.out) | (with_reducible refine Kd.C_alloc ?_ _) | (with_reducible refine Kd.C_drewN ?_ _) | (with_reducible refine Kd.C_drew ?_)))
             (case side2 => exact HC270_0.out)
             rintro e w66 ⟨v278, rfl, ho0, hb⟩
             have HS2_ := (hb.cell (zL _ _ (hHeld.2.2))).trans (hHeld.2.2)
             refine ⟨_, rfl, ?_⟩
             have HO279 := zM (Kd.R_lower (Kd.R_newB (Kd.R_newB (Kd.R_newB (Kd.R_new' ho0 (Kd.R_lt (by (with_reducible repeat (first | apply Kd.R_alloc | apply Kd.R_drewN | apply Kd.R_drew)); exact HO_270003.out))) (g := gb255) (o := .cells #[.int .i64 x256000_1, .int .i64 x256001_1, .int .i64 x256002_1, .slice none 0 0] 31 (0, 0)) (by (with_reducible repeat (first | refine blk_drewN ?_ _ | refine blk_drew ?_ | refine blk_alloc ?_ _)); exact BK255.out)) (g := gb269) (o := .cells #[.int .i64 a1, .int .i64 0, .int .i64 0, u270003] 31 (0, 0)) (by (with_reducible repeat (first | refine blk_drewN ?_ _ | refine blk_drew ?_ | refine blk_alloc ?_ _)); exact BK269.out)) (g := gb281) (o := .cells #[.int .i64 0, .int .i64 0, .int .i64 0, .slice none 0 0] 31 (0, 0)) (by (with_reducible repeat (first | refine blk_drewN ?_ _ | refine blk_drew ?_ | refine blk_alloc ?_ _)); exact BK281.out)) (below_size (by repeat first | refine zS ?_ GE254.out | refine zS ?_ GE255.out | refine zS ?_ GE269.out | refine zS ?_ GE281.out | exact HB.out | apply zA | apply zN | apply zD))); replace HO_10 := zM (Kd.R_below (by (with_reducible repeat (first | apply Kd.R_alloc | apply Kd.R_drewN | apply Kd.R_drew)); exact HO_10.out) hb); replace HO_270003 := zM (Kd.R_elder' (by (with_reducible repeat (first | apply Kd.R_alloc | apply Kd.R_drewN | apply Kd.R_drew)); exact HO_270003.out) (Kd.R_base ho0) hb); replace BK254 := zM (bb hb BK254.out); replace BK255 := zM (bb hb BK255.out); replace BK269 := zM (bb hb BK269.out); replace BK281 := zM (bb hb BK281.out); replace HB := zM (below_step (by repeat first | refine zS ?_ GE254.out | refine zS ?_ GE255.out | refine zS ?_ GE269.out | refine zS ?_ GE281.out | exact HB.out | apply zA | apply zN | apply zD) hb)
             (try clear hb)
             (try clear hb2)
             (try clear hk)
             (try clear hi)
             (try clear ho0)
             refine hK.out _ _ ⟨(blk_cell BK254.out 0).trans rfl, (blk_cell BK254.out 1).trans rfl, HS2_⟩ (fun hHeld => ?_)
             clear hK K
             refine norm_ (a' := ?_) ?_ ?_
             rotate_left
             ·show Act.put _ (some 59) _ = _
              simp only [Act.put, s1, s2, s3, i64_w, i32_w]
              rfl
             refine pv (v := ?_) (a' := ?_) HT_.out 10 (some 49) m89_17_ ?_ ?_ ?_; rotate_left 2; (·intro w'; go_simp; with_reducible rfl); (·simp only [Act.put, s1, s2, s3, i64_w, i32_w]; rfl)
             refine pv (v := ?_) (a' := ?_) HT_.out 11 (some 60) m89_18_ ?_ ?_ ?_; rotate_left 2; (·intro w'; go_simp; with_reducible rfl); (·simp only [Act.put, s1, s2, s3, i64_w, i32_w]; rfl)
             refine pv (v := ?_) (a' := ?_) HT_.out 12 (some 61) m89_8_ ?_ ?_ ?_; rotate_left 2; (·intro w'; go_simp; with_reducible rfl); (·simp only [Act.put, s1, s2, s3, i64_w, i32_w]; rfl)
             exact norm_ (by simp only [putAll, Act.put, List.setIfInBounds_toArray, List.set_cons_zero, List.set_cons_succ]) (hCont (v278, gb281) _ ⟨hHeld, (by (with_reducible repeat (first | apply Kd.R_alloc | apply Kd.R_drewN | apply Kd.R_drew)); exact Kd.R_mono HO279.out (fun _ hk => ⟨hk.1.1.1.2, ⟨hk.1.1.2, ⟨hk.1.2, hk.2⟩⟩⟩)), (by (with_reducible repeat (first | apply Kd.R_alloc | apply Kd.R_drewN | apply Kd.R_drew)); exact HO_10.out), (by (with_reducible repeat (first | apply Kd.R_alloc | apply Kd.R_drewN | apply Kd.R_drew)); exact Kd.R_mono HO_270003.out (fun _ hk => ⟨hk.2, ⟨hk.1.1.1, ⟨hk.1.1.2, hk.1.2⟩⟩⟩)), (by (with_reducible repeat (first | refine blk_drewN ?_ _ | refine blk_drew ?_ | refine blk_alloc ?_ _)); exact BK254.out), (by (with_reducible repeat (first | refine blk_drewN ?_ _ | refine blk_drew ?_ | refine blk_alloc ?_ _)); exact BK255.out), (by (with_reducible repeat (first | refine blk_drewN ?_ _ | refine blk_drew ?_ | refine blk_alloc ?_ _)); exact BK269.out), (by (with_reducible repeat (first | refine blk_drewN ?_ _ | refine blk_drew ?_ | refine blk_alloc ?_ _)); exact BK281.out), GW281.out, GE281.out, NB254_281.out, NB281_254.out, NB255_281.out, NB281_255.out, NB269_281.out, NB281_269.out, (by repeat first | refine zS ?_ GE254.out | refine zS ?_ GE255.out | refine zS ?_ GE269.out | refine zS ?_ GE281.out | exact HB.out | apply zA | apply zN | apply zD)⟩)
           ·skip
            refine box_step ?hg (N := 15) ?hd (cs := #[.int .i64 0, .int .i64 0, .int .i64 0, .slice none 0 0]) (t := 31) ?hr ?_; (case hd => rfl); (case hg => rfl); (case hr => first | (go_simp; done) | (go_simp; rfl))
            intro gb281 hg w64 hbox hb
            have HS2_ := (hb.cell (zL _ _ (hHeld.2.2))).trans (hHeld.2.2)
            have BK281 := zM (hbox); have GW281 := zM ((by rw [hg]; exact (below_size (by repeat first | refine zS ?_ GE254.out | refine zS ?_ GE255.out | refine zS ?_ GE269.out | exact HB.out | apply zA | apply zN | apply zD)) : w.heap.size ≤ gb281)); have GE281 := GW281; have NB254_281 := zM ((by rw [hg]; exact lt1 BK254.out : gb254 ≠ gb281)); have NB281_254 := zM ((by rw [hg]; exact gt1 BK254.out : gb281 ≠ gb254)); have NB255_281 := zM ((by rw [hg]; exact lt1 BK255.out : gb255 ≠ gb281)); have NB281_255 := zM ((by rw [hg]; exact gt1 BK255.out : gb281 ≠ gb255)); have NB269_281 := zM ((by rw [hg]; exact lt1 BK269.out : gb269 ≠ gb281)); have NB281_269 := zM ((by rw [hg]; exact gt1 BK269.out : gb281 ≠ gb269)); replace HO_10 := zM (Kd.R_below (by (with_reducible repeat (first | apply Kd.R_alloc | apply Kd.R_drewN | apply Kd.R_drew)); exact HO_10.out) hb); replace HO_270003 := zM (Kd.R_below (Kd.R_elderB (by (with_reducible repeat (first | apply Kd.R_alloc | apply Kd.R_drewN | apply Kd.R_drew)); exact HO_270003.out) gb281 (Nat.le_of_eq hg.symm)) hb); replace BK254 := zM (bb hb BK254.out); replace BK255 := zM (bb hb BK255.out); replace BK269 := zM (bb hb BK269.out); replace HB := zM (below_step (by repeat first | refine zS ?_ GE254.out | refine zS ?_ GE255.out | refine zS ?_ GE269.out | exact HB.out | apply zA | apply zN | apply zD) hb)
            clear hb hbox hg
            refine hK.out _ _ ⟨(blk_cell BK254.out 0).trans rfl, (blk_cell BK254.out 1).trans rfl, HS2_⟩ (fun hHeld => ?_)
            clear hK K
            refine norm_ (a' := ?_) ?_ ?_
            rotate_left
            ·show Act.put _ (some 15) _ = _
             simp only [Act.put, s1, s2, s3, i64_w, i32_w]
             rfl
            refine one_ (i := 7) (N := some 57) m89_12_ rfl rfl (one_of HT_.out (by kernel_rfl)) (by decide) (fun K hK => ?_)
            refine goes_ Try.func120 (by kernel_rfl) rfl #[.agg #[.int .i64 a0_0, .int .i64 a0_1], .int .i64 a1, .int .i64 (rd t265 x44_1)] (by rfl) rfl rfl (by (try simp only [List.map_toArray, List.map_cons, List.map_nil]); first | done | rfl | (simp only [List.length_drop, List.length_take]; rfl)) ?_
            with_reducible refine (preset_size_with.calls a0_0 a0_1 a1 (rd t265 x44_1) t272 t273 _ A34.out).mono ?_
            rintro e w65 ⟨rfl, hb⟩
            have HS2_ := (hb.cell (zL _ _ (hHeld.2.2))).trans (hHeld.2.2)
            refine ⟨_, rfl, ?_⟩
            replace HO_10 := zM (Kd.R_below (by (with_reducible repeat (first | apply Kd.R_alloc | apply Kd.R_drewN | apply Kd.R_drew)); exact HO_10.out) hb); replace HO_270003 := zM (Kd.R_below (by (with_reducible repeat (first | apply Kd.R_alloc | apply Kd.R_drewN | apply Kd.R_drew)); exact HO_270003.out) hb); replace BK254 := zM (bb hb BK254.out); replace BK255 := zM (bb hb BK255.out); replace BK269 := zM (bb hb BK269.out); replace BK281 := zM (bb hb BK281.out); replace HB := zM (below_step (by repeat first | refine zS ?_ GE254.out | refine zS ?_ GE255.out | refine zS ?_ GE269.out | refine zS ?_ GE281.out | exact HB.out | apply zA | apply zN | apply zD) hb)
            (try clear hb)
            (try clear hb2)
            (try clear hk)
            (try clear hi)
            refine hK.out _ _ ⟨(blk_cell BK254.out 0).trans rfl, (blk_cell BK254.out 1).trans rfl, HS2_⟩ (fun hHeld => ?_)
            clear hK K
            refine norm_ (a' := ?_) ?_ ?_
            rotate_left
            ·show Act.put _ (some 57) _ = _
             simp only [Act.put, s1, s2, s3, i64_w, i32_w]
             rfl
            refine one_ (i := 9) (N := some 59) m89_16_ rfl rfl (one_of HT_.out (by kernel_rfl)) (by decide) (fun K hK => ?_)
            refine goesV_ Y.hf Y.hn Y.hb #[.agg #[.int .i64 t272, .int .i64 t273], .slice A270_0 (rd_L2 l2 x44_1).length c270_0] (by rfl) rfl rfl rfl (by (try simp only [List.map_toArray, List.map_cons, List.map_nil]); first | done | rfl | (simp only [List.length_drop, List.length_take]; rfl)) ?_
            with_reducible refine (Y.calls k1 t272 t273 _ _ (rd_L2 l2 x44_1) t274 t275 t276 t277 false _ ?side1 ?side2 A35.out).mono ?_
            (case side1 => repeat (first | exact (Kd.C_below HR270_0.out HB.out) | (with_reducible refine Kd.C_alloc ?_ _) | (with_reducible refine Kd.C_drewN ?_ _) | (with_reducible refine Kd.C_drew ?_)))
            (case side2 => exact HC270_0.out)
            rintro e w66 ⟨v278, rfl, ho0, hb⟩
            have HS2_ := (hb.cell (zL _ _ (hHeld.2.2))).trans (hHeld.2.2)
            refine ⟨_, rfl, ?_⟩
            have HO279 := zM (Kd.R_lower (Kd.R_newB (Kd.R_newB (Kd.R_newB (Kd.R_new' ho0 (Kd.R_lt (by (with_reducible repeat (first | apply Kd.R_alloc | apply Kd.R_drewN | apply Kd.R_drew)); exact HO_270003.out))) (g := gb255) (o := .cells #[.int .i64 x256000_1, .int .i64 x256001_1, .int .i64 x256002_1, .slice none 0 0] 31 (0, 0)) (by (with_reducible repeat (first | refine blk_drewN ?_ _ | refine blk_drew ?_ | refine blk_alloc ?_ _)); exact BK255.out)) (g := gb269) (o := .cells #[.int .i64 a1, .int .i64 0, .int .i64 0, u270003] 31 (0, 0)) (by (with_reducible repeat (first | refine blk_drewN ?_ _ | refine blk_drew ?_ | refine blk_alloc ?_ _)); exact BK269.out)) (g := gb281) (o := .cells #[.int .i64 0, .int .i64 0, .int .i64 0, .slice none 0 0] 31 (0, 0)) (by (with_reducible repeat (first | refine blk_drewN ?_ _ | refine blk_drew ?_ | refine blk_alloc ?_ _)); exact BK281.out)) (below_size (by repeat first | refine zS ?_ GE254.out | refine zS ?_ GE255.out | refine zS ?_ GE269.out | refine zS ?_ GE281.out | exact HB.out | apply zA | apply zN | apply zD))); replace HO_10 := zM (Kd.R_below (by (with_reducible repeat (first | apply Kd.R_alloc | apply Kd.R_drewN | apply Kd.R_drew)); exact HO_10.out) hb); replace HO_270003 := zM (Kd.R_elder' (by (with_reducible repeat (first | apply Kd.R_alloc | apply Kd.R_drewN | apply Kd.R_drew)); exact HO_270003.out) (Kd.R_base ho0) hb); replace BK254 := zM (bb hb BK254.out); replace BK255 := zM (bb hb BK255.out); replace BK269 := zM (bb hb BK269.out); replace BK281 := zM (bb hb BK281.out); replace HB := zM (below_step (by repeat first | refine zS ?_ GE254.out | refine zS ?_ GE255.out | refine zS ?_ GE269.out | refine zS ?_ GE281.out | exact HB.out | apply zA | apply zN | apply zD) hb)
            (try clear hb)
            (try clear hb2)
            (try clear hk)
            (try clear hi)
            (try clear ho0)
            refine hK.out _ _ ⟨(blk_cell BK254.out 0).trans rfl, (blk_cell BK254.out 1).trans rfl, HS2_⟩ (fun hHeld => ?_)
            clear hK K
            refine norm_ (a' := ?_) ?_ ?_
            rotate_left
            ·show Act.put _ (some 59) _ = _
             simp only [Act.put, s1, s2, s3, i64_w, i32_w]
             rfl
            refine pv (v := ?_) (a' := ?_) HT_.out 10 (some 49) m89_17_ ?_ ?_ ?_; rotate_left 2; (·intro w'; go_simp; with_reducible rfl); (·simp only [Act.put, s1, s2, s3, i64_w, i32_w]; rfl)
            refine pv (v := ?_) (a' := ?_) HT_.out 11 (some 60) m89_18_ ?_ ?_ ?_; rotate_left 2; (·intro w'; go_simp; with_reducible rfl); (·simp only [Act.put, s1, s2, s3, i64_w, i32_w]; rfl)
            refine pv (v := ?_) (a' := ?_) HT_.out 12 (some 61) m89_8_ ?_ ?_ ?_; rotate_left 2; (·intro w'; go_simp; with_reducible rfl); (·simp only [Act.put, s1, s2, s3, i64_w, i32_w]; rfl)
            exact norm_ (by simp only [putAll, Act.put, List.setIfInBounds_toArray, List.set_cons_zero, List.set_cons_succ]) (hCont (v278, gb281) _ ⟨hHeld, (by (with_reducible repeat (first | apply Kd.R_alloc | apply Kd.R_drewN | apply Kd.R_drew)); exact Kd.R_mono HO279.out (fun _ hk => ⟨hk.1.1.1.2, ⟨hk.1.1.2, ⟨hk.1.2, hk.2⟩⟩⟩)), (by (with_reducible repeat (first | apply Kd.R_alloc | apply Kd.R_drewN | apply Kd.R_drew)); exact HO_10.out), (by (with_reducible repeat (first | apply Kd.R_alloc | apply Kd.R_drewN | apply Kd.R_drew)); exact Kd.R_mono HO_270003.out (fun _ hk => ⟨hk.2, ⟨hk.1.1.1, ⟨hk.1.1.2, hk.1.2⟩⟩⟩)), (by (with_reducible repeat (first | refine blk_drewN ?_ _ | refine blk_drew ?_ | refine blk_alloc ?_ _)); exact BK254.out), (by (with_reducible repeat (first | refine blk_drewN ?_ _ | refine blk_drew ?_ | refine blk_alloc ?_ _)); exact BK255.out), (by (with_reducible repeat (first | refine blk_drewN ?_ _ | refine blk_drew ?_ | refine blk_alloc ?_ _)); exact BK269.out), (by (with_reducible repeat (first | refine blk_drewN ?_ _ | refine blk_drew ?_ | refine blk_alloc ?_ _)); exact BK281.out), GW281.out, GE281.out, NB254_281.out, NB281_254.out, NB255_281.out, NB281_255.out, NB269_281.out, NB281_269.out, (by repeat first | refine zS ?_ GE254.out | refine zS ?_ GE255.out | refine zS ?_ GE269.out | refine zS ?_ GE281.out | exact HB.out | apply zA | apply zN | apply zD)⟩)
          rintro ⟨v278, gb281⟩ w67 ⟨hS_, h0_, h1_, h2_, h3_, h4_, h5_, h6_, h7_, h8_, h9_, h10_, h11_, h12_, h13_, h14_, h15_⟩
          have n0_ : Aside0 (Kd.R k31 31 w67 w.heap.size (fun k_ => some k_ ≠ (u270003 : Value).ownBlock ∧ k_ ≠ gb255 ∧ k_ ≠ gb269 ∧ k_ ≠ gb281) v278 t277) := ⟨h0_⟩
          have n1_ : Aside0 (Kd.R (Kd.int .i64) 3 w67 w.heap.size (fun _ => True) (.slice (some ad271) t265.length co63) t265) := ⟨h1_⟩
          have n2_ : Aside0 (Kd.R k31 31 w67 w.heap.size (fun k_ => some k_ ≠ (v278 : Value).ownBlock ∧ k_ ≠ gb255 ∧ k_ ≠ gb269 ∧ k_ ≠ gb281) u270003 x270003_1) := ⟨h2_⟩
          have n3_ : Aside0 (w67.heap[gb254]? = some (.cells #[.int .i64 a0_0, .int .i64 a0_1] 83 (0, 0))) := ⟨h3_⟩
          have n4_ : Aside0 (w67.heap[gb255]? = some (.cells #[.int .i64 x256000_1, .int .i64 x256001_1, .int .i64 x256002_1, .slice none 0 0] 31 (0, 0))) := ⟨h4_⟩
          have n5_ : Aside0 (w67.heap[gb269]? = some (.cells #[.int .i64 a1, .int .i64 0, .int .i64 0, u270003] 31 (0, 0))) := ⟨h5_⟩
          have n6_ : Aside0 (w67.heap[gb281]? = some (.cells #[.int .i64 0, .int .i64 0, .int .i64 0, .slice none 0 0] 31 (0, 0))) := ⟨h6_⟩
          have n7_ : Aside0 (w.heap.size ≤ gb281) := ⟨h7_⟩
          have n8_ : Aside0 (w.heap.size ≤ gb281) := ⟨h8_⟩
          have n9_ : Aside0 (gb254 ≠ gb281) := ⟨h9_⟩
          have n10_ : Aside0 (gb281 ≠ gb254) := ⟨h10_⟩
          have n11_ : Aside0 (gb255 ≠ gb281) := ⟨h11_⟩
          have n12_ : Aside0 (gb281 ≠ gb255) := ⟨h12_⟩
          have n13_ : Aside0 (gb269 ≠ gb281) := ⟨h13_⟩
          have n14_ : Aside0 (gb281 ≠ gb269) := ⟨h14_⟩
          have n15_ : Aside0 (Below w.heap.size w w67) := ⟨h15_⟩
          clear HO_10
          clear HO_270003
          clear BK254
          clear BK255
          clear BK269
          clear HB
          clear h0_ h1_ h2_ h3_ h4_ h5_ h6_ h7_ h8_ h9_ h10_ h11_ h12_ h13_ h14_ h15_
          have HO279 := n0_
          have HO_10 := n1_
          have HO_270003 := n2_
          have BK254 := n3_
          have BK255 := n4_
          have BK269 := n5_
          have BK281 := n6_
          have GW281 := n7_
          have GE281 := n8_
          have NB254_281 := n9_
          have NB281_254 := n10_
          have NB255_281 := n11_
          have NB281_255 := n12_
          have NB269_281 := n13_
          have NB281_269 := n14_
          have HB := n15_
          clear n0_ n1_ n2_ n3_ n4_ n5_ n6_ n7_ n8_ n9_ n10_ n11_ n12_ n13_ n14_ n15_
          have hHeld : w67.cell? ⟨gb254, 0, none⟩ = some (.int .i64 a0_0) ∧ w67.cell? ⟨gb254, 1, none⟩ = some (.int .i64 a0_1) ∧ w67.cell? (ad271.add (x44_1).toNat) = some (.int .i64 (rd t265 x44_1)) := hS_
          obtain ⟨Ao71, co71, eo71⟩ := Kd.R_slice HO279.out
          (first | subst eo71 | (injection eo71 with f1_ f2_ f3_; have f4_ := f1_.symm; have f5_ := f3_.symm; clear f1_ f2_ f3_; subst f4_; subst f5_))
          refine norm_ (a' := ?_) ?_ ?_
          rotate_left
          ·simp only [putAll, Act.put, List.setIfInBounds_toArray, List.set_cons_zero, List.set_cons_succ]
           rfl
          refine one_ (i := 14) (N := none) m89_19_ rfl rfl (one_of HT_.out (by kernel_rfl)) (by decide) (fun K hK => ?_)
          have hs68 : w67.cell? ⟨gb281, 0, none⟩ = some (.int .i64 0) := (blk_cell BK281.out 0).trans rfl
          have hfs68 := blk_frozen BK281.out 0
          have hns68_0 := NB254_281.out
          have hns68_1 := NB255_281.out
          have hns68_2 := NB269_281.out
          have hms68_0 := NB281_254.out
          have hms68_1 := NB281_255.out
          have hms68_2 := NB281_269.out
          have hs69 : w67.cell? ⟨gb281, 1, none⟩ = some (.int .i64 0) := (blk_cell BK281.out 1).trans rfl
          have hfs69 := blk_frozen BK281.out 1
          have hns69_0 := NB254_281.out
          have hns69_1 := NB255_281.out
          have hns69_2 := NB269_281.out
          have hms69_0 := NB281_254.out
          have hms69_1 := NB281_255.out
          have hms69_2 := NB281_269.out
          have hs70 : w67.cell? ⟨gb281, 2, none⟩ = some (.int .i64 0) := (blk_cell BK281.out 2).trans rfl
          have hfs70 := blk_frozen BK281.out 2
          have hns70_0 := NB254_281.out
          have hns70_1 := NB255_281.out
          have hns70_2 := NB269_281.out
          have hms70_0 := NB281_254.out
          have hms70_1 := NB281_255.out
          have hms70_2 := NB281_269.out
          have hs72 : w67.cell? ⟨gb281, 3, none⟩ = some (.slice none 0 0) := (blk_cell BK281.out 3).trans rfl
          have hfs72 := blk_frozen BK281.out 3
          have hns72_0 := NB254_281.out
          have hns72_1 := NB255_281.out
          have hns72_2 := NB269_281.out
          have hms72_0 := NB281_254.out
          have hms72_1 := NB281_255.out
          have hms72_2 := NB281_269.out
          refine skip_ (w1 := ?_) (by rfl) rfl ?_ ?_
          rotate_left
          ·go_simp
           rfl
          refine hK.out _ _ ⟨((cell_far (p := ⟨gb281, _, none⟩) NB254_281.out _).trans (((cell_far (p := ⟨gb281, _, none⟩) NB254_281.out _).trans (((cell_far (p := ⟨gb281, _, none⟩) NB254_281.out _).trans (((cell_far (p := ⟨gb281, _, none⟩) NB254_281.out _).trans (hHeld.1)))))))), ((cell_far (p := ⟨gb281, _, none⟩) NB254_281.out _).trans (((cell_far (p := ⟨gb281, _, none⟩) NB254_281.out _).trans (((cell_far (p := ⟨gb281, _, none⟩) NB254_281.out _).trans (((cell_far (p := ⟨gb281, _, none⟩) NB254_281.out _).trans (hHeld.2.1)))))))), ((cell_far (p := ⟨gb281, _, none⟩) (by first | exact Kd.own_blk (Kd.R_ne HO_10.out BK281.out (by decide)) | (rw [add_block]; exact Kd.own_blk (Kd.R_ne HO_10.out BK281.out (by decide))) | (show (Addr.add _ _).block ≠ _; rw [add_block]; exact Kd.own_blk (Kd.R_ne HO_10.out BK281.out (by decide))) | (dsimp only; exact Kd.own_blk (Kd.R_ne HO_10.out BK281.out (by decide)))) _).trans (((cell_far (p := ⟨gb281, _, none⟩) (by first | exact Kd.own_blk (Kd.R_ne HO_10.out BK281.out (by decide)) | (rw [add_block]; exact Kd.own_blk (Kd.R_ne HO_10.out BK281.out (by decide))) | (show (Addr.add _ _).block ≠ _; rw [add_block]; exact Kd.own_blk (Kd.R_ne HO_10.out BK281.out (by decide))) | (dsimp only; exact Kd.own_blk (Kd.R_ne HO_10.out BK281.out (by decide)))) _).trans (((cell_far (p := ⟨gb281, _, none⟩) (by first | exact Kd.own_blk (Kd.R_ne HO_10.out BK281.out (by decide)) | (rw [add_block]; exact Kd.own_blk (Kd.R_ne HO_10.out BK281.out (by decide))) | (show (Addr.add _ _).block ≠ _; rw [add_block]; exact Kd.own_blk (Kd.R_ne HO_10.out BK281.out (by decide))) | (dsimp only; exact Kd.own_blk (Kd.R_ne HO_10.out BK281.out (by decide)))) _).trans (((cell_far (p := ⟨gb281, _, none⟩) (by first | exact Kd.own_blk (Kd.R_ne HO_10.out BK281.out (by decide)) | (rw [add_block]; exact Kd.own_blk (Kd.R_ne HO_10.out BK281.out (by decide))) | (show (Addr.add _ _).block ≠ _; rw [add_block]; exact Kd.own_blk (Kd.R_ne HO_10.out BK281.out (by decide))) | (dsimp only; exact Kd.own_blk (Kd.R_ne HO_10.out BK281.out (by decide)))) _).trans (hHeld.2.2))))))))⟩ (fun hHeld => ?_)
          clear hK K
          refine pv (v := ?_) (a' := ?_) HT_.out 15 (some 16) m89_20_ ?_ ?_ ?_; rotate_left 2; (·intro w'; go_simp; with_reducible rfl); (·simp only [Act.put, s1, s2, s3, i64_w, i32_w]; rfl)
          refine done_ (done_of HT_.out (by kernel_rfl)) ?_
          have hnb73 := NB255_254.out
          have hnc73 := NB254_255.out
          have hnb74 := NB255_269.out
          have hnc74 := NB269_255.out
          have hnb75 := NB255_281.out
          have hnc75 := NB281_255.out
          have hcz76_0 : w67.cell? ⟨gb255, 0, none⟩ = some (.int .i64 x256000_1) := (blk_cell BK255.out 0).trans rfl
          have hcz76_1 : w67.cell? ⟨gb255, 1, none⟩ = some (.int .i64 x256001_1) := (blk_cell BK255.out 1).trans rfl
          have hcz76_2 : w67.cell? ⟨gb255, 2, none⟩ = some (.int .i64 x256002_1) := (blk_cell BK255.out 2).trans rfl
          have hcz76_3 : w67.cell? ⟨gb255, 3, none⟩ = some (.slice none 0 0) := (blk_cell BK255.out 3).trans rfl
          have hfz76_0 := blk_frozen BK255.out 0
          have hfz76_1 := blk_frozen BK255.out 1
          have hfz76_2 := blk_frozen BK255.out 2
          have hfz76_3 := blk_frozen BK255.out 3
          try go_wp2
          refine bodyPost_ret (results_ct rfl _ _ gb255 31 #[.int .i64 0, .int .i64 0, .int .i64 0, .slice none 0 0] (0, 0) _ rfl (by exact (put4 (blk_far (blk_far (blk_far (blk_far BK255.out NB255_281.out _) NB255_281.out _) NB255_281.out _) NB255_281.out _))) Try.underlying31 rfl (by kernel_rfl)) rfl ?_
          exact ⟨_, by first | rfl | (simp [errW_none, errW_some] <;> rfl) | (simp [*, errW_none, errW_some] <;> rfl), by first | exact Kd.R_nil _ _ _ _ _ | exact Kd.N_nil _ _ _ _ _ | exact Kd.V_nil _ _ _ _ _ | exact Kd.Q_nil _ _ _ _ _ | exact Kd.S_nil _ _ _ _ _, by repeat first | refine zS ?_ GE254.out | refine zS ?_ GE255.out | refine zS ?_ GE269.out | refine zS ?_ GE281.out | exact HB.out | apply zA | apply zN | apply zD⟩
        ·rw [if_neg c33] at H
         exact absurd H (by simp)
       ·rw [if_neg c32] at H
        exact absurd H (by simp)
      ·rw [if_neg c31] at H
       exact absurd H (by simp)
     ·rw [if_neg c30] at H
      have c30b0 : decide (x44_1 < (l2.length : Int)) = false := decide_eq_false c30
      clear c30
      simp only [Option.some.injEq, Prod.mk.injEq] at H
      obtain ⟨rfl, rfl, rfl, rfl, rfl⟩ := H
      have hnb77 := NB269_254.out
      have hnc77 := NB254_269.out
      have hnb78 := NB269_255.out
      have hnc78 := NB255_269.out
      have hcz79_0 : wr.cell? ⟨gb269, 0, none⟩ = some (.int .i64 a1) := (blk_cell BK269.out 0).trans rfl
      have hcz79_1 : wr.cell? ⟨gb269, 1, none⟩ = some (.int .i64 0) := (blk_cell BK269.out 1).trans rfl
      have hcz79_2 : wr.cell? ⟨gb269, 2, none⟩ = some (.int .i64 0) := (blk_cell BK269.out 2).trans rfl
      have hcz79_3 : wr.cell? ⟨gb269, 3, none⟩ = some (u270003) := (blk_cell BK269.out 3).trans rfl
      have hfz79_0 := blk_frozen BK269.out 0
      have hfz79_1 := blk_frozen BK269.out 1
      have hfz79_2 := blk_frozen BK269.out 2
      have hfz79_3 := blk_frozen BK269.out 3
      have hnb80 := NB255_254.out
      have hnc80 := NB254_255.out
      have hcz81_0 : wr.cell? ⟨gb255, 0, none⟩ = some (.int .i64 x256000_1) := (blk_cell BK255.out 0).trans rfl
      have hcz81_1 : wr.cell? ⟨gb255, 1, none⟩ = some (.int .i64 x256001_1) := (blk_cell BK255.out 1).trans rfl
      have hcz81_2 : wr.cell? ⟨gb255, 2, none⟩ = some (.int .i64 x256002_1) := (blk_cell BK255.out 2).trans rfl
      have hcz81_3 : wr.cell? ⟨gb255, 3, none⟩ = some (.slice none 0 0) := (blk_cell BK255.out 3).trans rfl
      have hfz81_0 := blk_frozen BK255.out 0
      have hfz81_1 := blk_frozen BK255.out 1
      have hfz81_2 := blk_frozen BK255.out 2
      have hfz81_3 := blk_frozen BK255.out 3
      obtain ⟨Ao82, co82, eo82⟩ := Kd.R_slice HO_270003.out
      subst eo82
      go_wp2
      refine bodyPost_ret (results_ct rfl _ _ gb255 31 #[.int .i64 a1, .int .i64 0, .int .i64 0, .slice Ao82 x270003_1.length co82] (0, 0) _ rfl (by exact (put4 BK255.out)) Try.underlying31 rfl (by kernel_rfl)) rfl ?_
      exact ⟨_, by first | rfl | (simp [errW_none, errW_some] <;> rfl) | (simp [*, errW_none, errW_some] <;> rfl), by (with_reducible repeat (first | apply Kd.R_alloc | apply Kd.R_drewN | apply Kd.R_drew)); exact Kd.R_mono (Kd.R_far (p := ⟨gb255, 3, none⟩) (Kd.R_far (p := ⟨gb255, 2, none⟩) (Kd.R_far (p := ⟨gb255, 1, none⟩) (Kd.R_far (p := ⟨gb255, 0, none⟩) (Kd.R_mono HO_270003.out (fun k_ hk => (⟨hk, hk.1⟩ : _ ∧ k_ ≠ gb255))) (fun _ hk => hk.2) (.int .i64 a1)) (fun _ hk => hk.2) (.int .i64 0)) (fun _ hk => hk.2) (.int .i64 0)) (fun _ hk => hk.2) (.slice Ao82 x270003_1.length co82)) (fun _ hk => trivial), by repeat first | refine zS ?_ GE254.out | refine zS ?_ GE255.out | refine zS ?_ GE269.out | exact HB.out | apply zA | apply zN | apply zD⟩
  ·rw [if_neg c19] at H
   have c19b0 : (t266 == 0) = false := beq_eq_false_iff_ne.mpr c19
   have c19b1 : (t266 != 0) = true := bne_iff_ne.mpr c19
   simp only [Option.some.injEq, Prod.mk.injEq] at H
   obtain ⟨rfl, rfl, rfl, rfl, rfl⟩ := H
   go_enter Try.func89, Try.ntmps89
   go_wp2_with (first | ((with_reducible refine gate_dst (N := 4) rfl ?_); refine box_event ?hg (N := 4) ?hd (cs := #[.int .i64 a0_0, .int .i64 a0_1]) (t := 83) ?hr ?_; (case hd => rfl); (case hg => rfl); (case hr => first | (go_simp; done) | (go_simp; rfl)); intro gb254 hg w83 hbox hb; have BK254 := zM (hbox); have GW254 := zM ((by rw [hg]; exact (below_size (by first | exact HB.out | exact zN HB.out _ | exact zD HB.out)) : w.heap.size ≤ gb254)); have GE254 := GW254; replace HB := zM (below_step (by first | exact HB.out | exact zN HB.out _ | exact zD HB.out) hb); clear hb hbox hg) | ((with_reducible refine gate_dst (N := 8) rfl ?_); refine box_event ?hg (N := 8) ?hd (cs := #[.int .i64 0, .int .i64 0, .int .i64 0, .slice none 0 0]) (t := 31) ?hr ?_; (case hd => rfl); (case hg => rfl); (case hr => first | (go_simp; done) | (go_simp; rfl)); intro gb255 hg w84 hbox hb; have BK255 := zM (hbox); have GW255 := zM ((by rw [hg]; exact (below_size (by repeat first | refine zS ?_ GE254.out | exact HB.out | apply zA | apply zN | apply zD)) : w.heap.size ≤ gb255)); have GE255 := GW255; have NB254_255 := zM ((by rw [hg]; exact lt1 BK254.out : gb254 ≠ gb255)); have NB255_254 := zM ((by rw [hg]; exact gt1 BK254.out : gb255 ≠ gb254)); replace BK254 := zM (bb hb BK254.out); replace HB := zM (below_step (by repeat first | refine zS ?_ GE254.out | exact HB.out | apply zA | apply zN | apply zD) hb); clear hb hbox hg; have hnb85 := NB254_255.out; have hnc85 := NB255_254.out; have hcz86_0 : w84.cell? ⟨gb254, 0, none⟩ = some (.int .i64 a0_0) := (blk_cell BK254.out 0).trans rfl; have hcz86_1 : w84.cell? ⟨gb254, 1, none⟩ = some (.int .i64 a0_1) := (blk_cell BK254.out 1).trans rfl; have hfz86_0 := blk_frozen BK254.out 0; have hfz86_1 := blk_frozen BK254.out 1) | ((with_reducible refine gate_callee (f := 119) rfl ?_); refine ga (some 31) rfl rfl Try.func119 (by kernel_rfl) rfl #[.agg #[.int .i64 a0_0, .int .i64 a0_1], .int .i64 a1] rfl ?_; (with_reducible refine (preset_size_along.calls a0_0 a0_1 a1 t264 _ A17.out).mono ?_); rintro e w87 ⟨rfl, hb⟩; refine ⟨_, rfl, ?_⟩; replace BK254 := zM (bb hb BK254.out); replace BK255 := zM (bb hb BK255.out); replace HB := zM (below_step (by repeat first | refine zS ?_ GE254.out | refine zS ?_ GE255.out | exact HB.out | apply zA | apply zN | apply zD) hb); (try clear hb); (try clear hb2); (try clear hk); (try clear hi)) | ((with_reducible refine gate_callee (f := 11) rfl ?_); refine ga (some 34) rfl rfl Try.func11 (by kernel_rfl) rfl #[.int .i64 t264, .int .i64 (l2.length : Int)] rfl ?_; (with_reducible refine (preset_Even.calls k t264 (l2.length : Int) t265 t266 _ A18.out).mono ?_); rintro e w88 ⟨v267, rfl, ho0, hb⟩; refine ⟨_, rfl, ?_⟩; have HO268 := zM (Kd.R_lower ho0 (below_size (by repeat first | refine zS ?_ GE254.out | refine zS ?_ GE255.out | exact HB.out | apply zA | apply zN | apply zD))); replace BK254 := zM (bb hb BK254.out); replace BK255 := zM (bb hb BK255.out); replace HB := zM (below_step (by repeat first | refine zS ?_ GE254.out | refine zS ?_ GE255.out | exact HB.out | apply zA | apply zN | apply zD) hb); (try clear hb); (try clear hb2); (try clear hk); (try clear hi); (try clear ho0); obtain ⟨hcz89_0, hcz89_1, hcz89_2, hcz89_3, hfz89_0, hfz89_1, hfz89_2, hfz89_3⟩ := cz4 BK255.out))
   refine bodyPost_ret (results_ct rfl _ _ gb255 31 #[.int .i64 0, .int .i64 0, .int .i64 0, .slice none 0 0] (0, 0) _ rfl (by exact (put4 BK255.out)) Try.underlying31 rfl (by kernel_rfl)) rfl ?_
   exact ⟨_, by first | rfl | (simp [errW_none, errW_some] <;> rfl) | (simp [*, errW_none, errW_some] <;> rfl), by first | exact Kd.R_nil _ _ _ _ _ | exact Kd.N_nil _ _ _ _ _ | exact Kd.V_nil _ _ _ _ _ | exact Kd.Q_nil _ _ _ _ _ | exact Kd.S_nil _ _ _ _ _, by repeat first | refine zS ?_ GE254.out | refine zS ?_ GE255.out | exact HB.out | apply zA | apply zN | apply zD⟩
def layPane : LayFn := ⟨91, ⟨_, Try.func91, by kernel_rfl, rfl⟩, fun _ w h l => preset_size_pane.f w h l, fun _ _ _ _ => LeO.refl _, fun _ => preset_size_pane.calls⟩
def preset_sharedPane.f (k : Nat) (a0 a0_ a1 : Int) (a2 : List (List Int)) (a3 : Int) : Option (Int × Int × Int × (List (S31)) × Bool) := preset_sharedG.f layPane k a0 a0_ a1 a2 a3
theorem preset_sharedPane.mono : ∀ a0 a1 a2 a3 a4 k, LeO (preset_sharedPane.f k a0 a1 a2 a3 a4) (preset_sharedPane.f (k + 1) a0 a1 a2 a3 a4) := preset_sharedG.mono layPane
theorem preset_sharedPane.calls (k : Nat) (a0_0 : Int) (a0_1 : Int) (a1 : Int) (A2 : Option Addr) (c2 : Nat) (l2 : List (List Int)) (a3 : Int) (r1 : Int) (r2 : Int) (r3 : Int) (r4 : List (S31)) (r5 : Bool) (w : World) (hr2 : Kd.C (Kd.slice 3 (Kd.int .i64)) w A2 l2.length l2) (hc2 : l2.length ≤ c2) (h : preset_sharedPane.f k a0_0 a0_1 a1 l2 a3 = some (r1, r2, r3, r4, r5)) :
 Calls Try.prog 89 #[.agg #[.int .i64 a0_0, .int .i64 a0_1], .int .i64 a1, .slice A2 l2.length c2, .func (.func 91) #[] #[]] w fun e w' => ∃ v3_ : Value, e = .returned (.tuple #[.agg #[.int .i64 r1, .int .i64 r2, .int .i64 r3, v3_], .bool r5]) ∧ Kd.R k31 31 w' w.heap.size (fun _ => True) v3_ r4 ∧ Below w.heap.size w w' := preset_sharedG.calls layPane k a0_0 a0_1 a1 A2 c2 l2 a3 r1 r2 r3 r4 r5 w hr2 hc2 h
end Go.Proofs.Ytplngfammfdemaa.Q
