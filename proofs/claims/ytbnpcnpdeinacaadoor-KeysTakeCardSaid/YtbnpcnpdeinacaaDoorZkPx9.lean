-- A copy of the text YtbnpcnpdeinacaaDoorPx9 with what this claim does not reach left out (prune.py, a program of this project).
import Derived.Test.YtbnpcnpdeinacaaDoorZkPx0
import Derived.Test.YtbnpcnpdeinacaaDoorZkPx4
import Derived.Test.YtbnpcnpdeinacaaDoorZkPx5
import Derived.Test.YtbnpcnpdeinacaaDoorZkPx6
import Derived.Test.YtbnpcnpdeinacaaDoorZkPx7
import Derived.Test.YtbnpcnpdeinacaaDoorZkPx8
namespace Go.Proofs.YtbnpcnpdeinacaaDoor.P
open Go.RowKit Go.Proofs.YtbnpcnpdeinacaaDoor Go.Proofs.YtbnpcnpdeinacaaDoorW.PrintWords Go.Proofs.YtbnpcnpdeinacaaDoorW.PrintLast Go.Proofs.YtbnpcnpdeinacaaDoorW.PrintMore
attribute [local go_sem] max2_int min2_int max_two min_two max_three min_three max_four min_four   -- for this text's walks alone
set_option linter.unusedVariables false
set_option linter.unusedSimpArgs false
mutual
def backseatref03_Take.j0 : Nat → ByteArray → Bool → Bool → ByteArray → Int → Bool → Option (ByteArray × Int)
  | 0, _, _, _, _, _, _ => none
  | k + 1, x0, x1, x18, x203000, x203001, x203002 => if x18 = true then ((backseatref03_sequence.f k x0 x1).bind fun bt203 => (backseatref03_Take.j1 k x0 x1 bt203.1 bt203.2.1 bt203.2.2)) else (backseatref03_Take.j1 k x0 x1 x203000 x203001 x203002)
def backseatref03_Take.j1 : Nat → ByteArray → Bool → ByteArray → Int → Bool → Option (ByteArray × Int)
  | 0, _, _, _, _, _ => none
  | k + 1, x0, x1, x203000, x203001, x203002 => if x203002 = true then (backseatref03_Take.j2 k x0 x1 false x203000 x203001 x203002) else (if 0 < (x0.size : Int) then (backseatref03_Take.j2 k x0 x1 ((bt x0 0) == 27) x203000 x203001 x203002) else (none))
def backseatref03_Take.j2 : Nat → ByteArray → Bool → Bool → ByteArray → Int → Bool → Option (ByteArray × Int)
  | 0, _, _, _, _, _, _ => none
  | k + 1, x0, x1, x29, x203000, x203001, x203002 => if x29 = true then ((backseatref03_meta.f k x0 x1).bind fun bt206 => (backseatref03_Take.j3 k x0 x1 bt206.1 bt206.2.1 bt206.2.2)) else (backseatref03_Take.j3 k x0 x1 x203000 x203001 x203002)
def backseatref03_Take.j3 : Nat → ByteArray → Bool → ByteArray → Int → Bool → Option (ByteArray × Int)
  | 0, _, _, _, _, _ => none
  | k + 1, x0, x1, x203000, x203001, x203002 => if x203002 = true then (some (x203000, x203001)) else (if 0 < (x0.size : Int) then (if (bt x0 0) = 27 then (some ((⟨#[69, 115, 99]⟩ : ByteArray), 1)) else ((backseatref03_Letter.f k x0).bind fun t209 => (if t209.toList = ([] : List UInt8) then ((backseatref01_First.f k x0).bind fun bt210 => (if bt210.2.2 = 2 then (backseatref03_Take.j4 k (!x1) bt210.1 bt210.2.1 bt210.2.2) else (backseatref03_Take.j4 k false bt210.1 bt210.2.1 bt210.2.2))) else (some (t209, (t209.size : Int)))))) else (none))
def backseatref03_Take.j4 : Nat → Bool → Int → Int → Int → Option (ByteArray × Int)
  | 0, _, _, _, _ => none
  | k + 1, x57, x214000, x214001, x214002 => if x57 = true then (some ((⟨#[]⟩ : ByteArray), 0)) else (if x214002 = 2 then (some ((⟨#[63]⟩ : ByteArray), 1)) else (some ((⟨#[63]⟩ : ByteArray), x214001)))
end
def backseatref03_Take.f (k : Nat) (a0 : ByteArray) (a1 : Bool) : Option (ByteArray × Int) := (backseatref03_named.f k a0 a1).bind fun bt199 => (if bt199.2.2 = true then (backseatref03_Take.j0 k a0 a1 false bt199.1 bt199.2.1 bt199.2.2) else (if 0 < (a0.size : Int) then (backseatref03_Take.j0 k a0 a1 ((bt a0 0) == 27) bt199.1 bt199.2.1 bt199.2.2) else (none)))
theorem backseatref03_Take.mono_l : ∀ k, (∀ y0 y1 y2 y3 y4 y5, LeO (backseatref03_Take.j0 k y0 y1 y2 y3 y4 y5) (backseatref03_Take.j0 (k + 1) y0 y1 y2 y3 y4 y5)) ∧ (∀ y0 y1 y2 y3 y4, LeO (backseatref03_Take.j1 k y0 y1 y2 y3 y4) (backseatref03_Take.j1 (k + 1) y0 y1 y2 y3 y4)) ∧ (∀ y0 y1 y2 y3 y4 y5, LeO (backseatref03_Take.j2 k y0 y1 y2 y3 y4 y5) (backseatref03_Take.j2 (k + 1) y0 y1 y2 y3 y4 y5)) ∧ (∀ y0 y1 y2 y3 y4, LeO (backseatref03_Take.j3 k y0 y1 y2 y3 y4) (backseatref03_Take.j3 (k + 1) y0 y1 y2 y3 y4)) ∧ (∀ y0 y1 y2 y3, LeO (backseatref03_Take.j4 k y0 y1 y2 y3) (backseatref03_Take.j4 (k + 1) y0 y1 y2 y3))
  | 0 => ⟨fun _ _ _ _ _ _ r h => by simp [backseatref03_Take.j0] at h, fun _ _ _ _ _ r h => by simp [backseatref03_Take.j1] at h, fun _ _ _ _ _ _ r h => by simp [backseatref03_Take.j2] at h, fun _ _ _ _ _ r h => by simp [backseatref03_Take.j3] at h, fun _ _ _ _ r h => by simp [backseatref03_Take.j4] at h⟩
  | k + 1 => by
    obtain ⟨ih0, ih1, ih2, ih3, ih4⟩ := backseatref03_Take.mono_l k
    refine ⟨?_, ?_, ?_, ?_, ?_⟩
    · intro y0 y1 y2 y3 y4 y5
      unfold backseatref03_Take.j0
      repeat' first
      | (with_reducible exact ih0 _ _ _ _ _ _)
      | (with_reducible exact ih1 _ _ _ _ _)
      | (with_reducible exact ih2 _ _ _ _ _ _)
      | (with_reducible exact ih3 _ _ _ _ _)
      | (with_reducible exact ih4 _ _ _ _)
      | (with_reducible exact backseatref01_First.mono _ _)
      | (with_reducible exact backseatref03_Letter.mono _ _)
      | (with_reducible exact backseatref03_meta.mono _ _ _)
      | (with_reducible exact backseatref03_named.mono _ _ _)
      | (with_reducible exact backseatref03_sequence.mono _ _ _)
      | (with_reducible exact LeO.refl _)
      | (with_reducible exact LeO.none _)
      | (with_reducible refine LeO.ite ?_ ?_)
      | (with_reducible refine LeO.bind ?_ (fun _ => ?_))
      | exact ih0 _ _ _ _ _ _
      | exact ih1 _ _ _ _ _
      | exact ih2 _ _ _ _ _ _
      | exact ih3 _ _ _ _ _
      | exact ih4 _ _ _ _
      | exact backseatref01_First.mono _ _
      | exact backseatref03_Letter.mono _ _
      | exact backseatref03_meta.mono _ _ _
      | exact backseatref03_named.mono _ _ _
      | exact backseatref03_sequence.mono _ _ _
      | exact LeO.none _
      | refine LeO.ite ?_ ?_
      | refine LeO.bind ?_ (fun _ => ?_)
    · intro y0 y1 y2 y3 y4
      unfold backseatref03_Take.j1
      repeat' first
      | (with_reducible exact ih0 _ _ _ _ _ _)
      | (with_reducible exact ih1 _ _ _ _ _)
      | (with_reducible exact ih2 _ _ _ _ _ _)
      | (with_reducible exact ih3 _ _ _ _ _)
      | (with_reducible exact ih4 _ _ _ _)
      | (with_reducible exact backseatref01_First.mono _ _)
      | (with_reducible exact backseatref03_Letter.mono _ _)
      | (with_reducible exact backseatref03_meta.mono _ _ _)
      | (with_reducible exact backseatref03_named.mono _ _ _)
      | (with_reducible exact backseatref03_sequence.mono _ _ _)
      | (with_reducible exact LeO.refl _)
      | (with_reducible exact LeO.none _)
      | (with_reducible refine LeO.ite ?_ ?_)
      | (with_reducible refine LeO.bind ?_ (fun _ => ?_))
      | exact ih0 _ _ _ _ _ _
      | exact ih1 _ _ _ _ _
      | exact ih2 _ _ _ _ _ _
      | exact ih3 _ _ _ _ _
      | exact ih4 _ _ _ _
      | exact backseatref01_First.mono _ _
      | exact backseatref03_Letter.mono _ _
      | exact backseatref03_meta.mono _ _ _
      | exact backseatref03_named.mono _ _ _
      | exact backseatref03_sequence.mono _ _ _
      | exact LeO.none _
      | refine LeO.ite ?_ ?_
      | refine LeO.bind ?_ (fun _ => ?_)
    · intro y0 y1 y2 y3 y4 y5
      unfold backseatref03_Take.j2
      repeat' first
      | (with_reducible exact ih0 _ _ _ _ _ _)
      | (with_reducible exact ih1 _ _ _ _ _)
      | (with_reducible exact ih2 _ _ _ _ _ _)
      | (with_reducible exact ih3 _ _ _ _ _)
      | (with_reducible exact ih4 _ _ _ _)
      | (with_reducible exact backseatref01_First.mono _ _)
      | (with_reducible exact backseatref03_Letter.mono _ _)
      | (with_reducible exact backseatref03_meta.mono _ _ _)
      | (with_reducible exact backseatref03_named.mono _ _ _)
      | (with_reducible exact backseatref03_sequence.mono _ _ _)
      | (with_reducible exact LeO.refl _)
      | (with_reducible exact LeO.none _)
      | (with_reducible refine LeO.ite ?_ ?_)
      | (with_reducible refine LeO.bind ?_ (fun _ => ?_))
      | exact ih0 _ _ _ _ _ _
      | exact ih1 _ _ _ _ _
      | exact ih2 _ _ _ _ _ _
      | exact ih3 _ _ _ _ _
      | exact ih4 _ _ _ _
      | exact backseatref01_First.mono _ _
      | exact backseatref03_Letter.mono _ _
      | exact backseatref03_meta.mono _ _ _
      | exact backseatref03_named.mono _ _ _
      | exact backseatref03_sequence.mono _ _ _
      | exact LeO.none _
      | refine LeO.ite ?_ ?_
      | refine LeO.bind ?_ (fun _ => ?_)
    · intro y0 y1 y2 y3 y4
      unfold backseatref03_Take.j3
      repeat' first
      | (with_reducible exact ih0 _ _ _ _ _ _)
      | (with_reducible exact ih1 _ _ _ _ _)
      | (with_reducible exact ih2 _ _ _ _ _ _)
      | (with_reducible exact ih3 _ _ _ _ _)
      | (with_reducible exact ih4 _ _ _ _)
      | (with_reducible exact backseatref01_First.mono _ _)
      | (with_reducible exact backseatref03_Letter.mono _ _)
      | (with_reducible exact backseatref03_meta.mono _ _ _)
      | (with_reducible exact backseatref03_named.mono _ _ _)
      | (with_reducible exact backseatref03_sequence.mono _ _ _)
      | (with_reducible exact LeO.refl _)
      | (with_reducible exact LeO.none _)
      | (with_reducible refine LeO.ite ?_ ?_)
      | (with_reducible refine LeO.bind ?_ (fun _ => ?_))
      | exact ih0 _ _ _ _ _ _
      | exact ih1 _ _ _ _ _
      | exact ih2 _ _ _ _ _ _
      | exact ih3 _ _ _ _ _
      | exact ih4 _ _ _ _
      | exact backseatref01_First.mono _ _
      | exact backseatref03_Letter.mono _ _
      | exact backseatref03_meta.mono _ _ _
      | exact backseatref03_named.mono _ _ _
      | exact backseatref03_sequence.mono _ _ _
      | exact LeO.none _
      | refine LeO.ite ?_ ?_
      | refine LeO.bind ?_ (fun _ => ?_)
    · intro y0 y1 y2 y3
      unfold backseatref03_Take.j4
      repeat' first
      | (with_reducible exact ih0 _ _ _ _ _ _)
      | (with_reducible exact ih1 _ _ _ _ _)
      | (with_reducible exact ih2 _ _ _ _ _ _)
      | (with_reducible exact ih3 _ _ _ _ _)
      | (with_reducible exact ih4 _ _ _ _)
      | (with_reducible exact backseatref01_First.mono _ _)
      | (with_reducible exact backseatref03_Letter.mono _ _)
      | (with_reducible exact backseatref03_meta.mono _ _ _)
      | (with_reducible exact backseatref03_named.mono _ _ _)
      | (with_reducible exact backseatref03_sequence.mono _ _ _)
      | (with_reducible exact LeO.refl _)
      | (with_reducible exact LeO.none _)
      | (with_reducible refine LeO.ite ?_ ?_)
      | (with_reducible refine LeO.bind ?_ (fun _ => ?_))
      | exact ih0 _ _ _ _ _ _
      | exact ih1 _ _ _ _ _
      | exact ih2 _ _ _ _ _ _
      | exact ih3 _ _ _ _ _
      | exact ih4 _ _ _ _
      | exact backseatref01_First.mono _ _
      | exact backseatref03_Letter.mono _ _
      | exact backseatref03_meta.mono _ _ _
      | exact backseatref03_named.mono _ _ _
      | exact backseatref03_sequence.mono _ _ _
      | exact LeO.none _
      | refine LeO.ite ?_ ?_
      | refine LeO.bind ?_ (fun _ => ?_)
theorem backseatref03_Take.mono : ∀ a0 a1 k, LeO (backseatref03_Take.f k a0 a1) (backseatref03_Take.f (k + 1) a0 a1) := by
  intro a0 a1 k
  obtain ⟨ih0, ih1, ih2, ih3, ih4⟩ := backseatref03_Take.mono_l k
  unfold backseatref03_Take.f
  repeat' first
      | (with_reducible exact ih0 _ _ _ _ _ _)
      | (with_reducible exact ih1 _ _ _ _ _)
      | (with_reducible exact ih2 _ _ _ _ _ _)
      | (with_reducible exact ih3 _ _ _ _ _)
      | (with_reducible exact ih4 _ _ _ _)
      | (with_reducible exact backseatref01_First.mono _ _)
      | (with_reducible exact backseatref03_Letter.mono _ _)
      | (with_reducible exact backseatref03_meta.mono _ _ _)
      | (with_reducible exact backseatref03_named.mono _ _ _)
      | (with_reducible exact backseatref03_sequence.mono _ _ _)
      | (with_reducible exact LeO.refl _)
      | (with_reducible exact LeO.none _)
      | (with_reducible refine LeO.ite ?_ ?_)
      | (with_reducible refine LeO.bind ?_ (fun _ => ?_))
      | exact ih0 _ _ _ _ _ _
      | exact ih1 _ _ _ _ _
      | exact ih2 _ _ _ _ _ _
      | exact ih3 _ _ _ _ _
      | exact ih4 _ _ _ _
      | exact backseatref01_First.mono _ _
      | exact backseatref03_Letter.mono _ _
      | exact backseatref03_meta.mono _ _ _
      | exact backseatref03_named.mono _ _ _
      | exact backseatref03_sequence.mono _ _ _
      | exact LeO.none _
      | refine LeO.ite ?_ ?_
      | refine LeO.bind ?_ (fun _ => ?_)
set_option maxHeartbeats 8000000 in
set_option maxRecDepth 100000 in
theorem backseatref03_Take.calls (k : Nat) (a0 : ByteArray) (a1 : Bool) (r1 : ByteArray) (r2 : Int) (w : World) (h : backseatref03_Take.f k a0 a1 = some (r1, r2)) :
    Calls Tryd.prog 16 #[.string a0, .bool a1] w fun e w' => e = .returned (.agg #[.string r1, .int .i64 r2]) ∧ Below w.heap.size w w' := by
  have hu59 := Tryd.underlying59
  have hu69 := Tryd.underlying69
  have hu72 := Tryd.underlying72
  have HB := Aside0.mk (Below.refl w.heap.size w)
  have H : ((backseatref03_named.f k a0 a1).bind fun bt199 => (if bt199.2.2 = true then (backseatref03_Take.j0 k a0 a1 false bt199.1 bt199.2.1 bt199.2.2) else (if 0 < (a0.size : Int) then (backseatref03_Take.j0 k a0 a1 ((bt a0 0) == 27) bt199.1 bt199.2.1 bt199.2.2) else (none)))) = some (r1, r2) := h
  clear h
  replace H := Option.bind_eq_some_iff.mp H
  obtain ⟨⟨t199, t200, t201⟩, A30, H⟩ := H
  replace H : (if t201 = true then (backseatref03_Take.j0 k a0 a1 false t199 t200 t201) else (if 0 < (a0.size : Int) then (backseatref03_Take.j0 k a0 a1 ((bt a0 0) == 27) t199 t200 t201) else (none))) = some (r1, r2) := H
  have A3 := Aside0.mk A30
  clear A30
  have HC4 := Aside0.mk H
  clear H
  go_enter Tryd.func16, Tryd.ntmps16
  go_upto_region 2 with (first | ((with_reducible refine gate_dst (N := 4) rfl ?_); refine box_event ?hg (N := 4) ?hd (cs := #[.string (⟨#[]⟩ : ByteArray), .int .i64 0]) (t := 59) ?hr ?_; (case hd => rfl); (case hg => rfl); (case hr => first | (go_simp; done) | (go_simp; rfl)); intro gb198 hg w5 hbox hb; have n0_ := Aside0.mk (below_step (by repeat (first | (with_reducible first | exact HB.out | apply below_alloc | apply pw_below_drewN | apply below_drew1) | exact HB.out)) hb); have n1_ := Aside0.mk (hbox); have n2_ := Aside0.mk ((by rw [hg]; exact (below_size (by repeat (first | (with_reducible first | exact HB.out | apply below_alloc | apply pw_below_drewN | apply below_drew1) | exact HB.out))) : w.heap.size ≤ gb198)); have n3_ := Aside0.mk ((by rw [hg]; exact (below_size (by repeat (first | (with_reducible first | exact HB.out | apply below_alloc | apply pw_below_drewN | apply below_drew1) | exact HB.out))) : w.heap.size ≤ gb198)); clear HB; have HB := n0_; have BK198 := n1_; have GW198 := n2_; have GE198 := n3_; clear n0_ n1_ n2_ n3_; clear hb hbox hg) | ((with_reducible refine gate_callee (f := 27) rfl ?_); refine goesL_ (some 10) rfl rfl Tryd.func27 (by kernel_rfl) rfl #[.string a0, .bool a1] rfl (by (try simp only [List.map_toArray, List.map_cons, List.map_nil]); first | done | rfl | (simp only [List.length_drop, List.length_take]; rfl)) ?_; (with_reducible refine (backseatref03_named.calls k a0 a1 t199 t200 t201 _ A3.out).mono ?_); rintro e w6 ⟨rfl, hb⟩; refine ⟨_, rfl, ?_⟩; have n0_ := Aside0.mk (blk_below (g := gb198) (o := .cells #[.string (⟨#[]⟩ : ByteArray), .int .i64 0] 59 (0, 0)) (by (with_reducible repeat (first | refine blk_drewN ?_ _ | refine blk_drew ?_ | refine blk_alloc ?_ _)); exact BK198.out) hb); have n1_ := Aside0.mk (below_step (by repeat (first | (with_reducible first | exact HB.out | apply below_alloc | apply pw_below_drewN | apply below_drew1 | refine below_set ?_ GE198.out) | exact HB.out)) hb); clear BK198; clear HB; have BK198 := n0_; have HB := n1_; clear n0_ n1_; (try clear hb); (try clear hb2); (try clear hk); (try clear hi)) | ((with_reducible refine gate_dst (N := 5) rfl ?_); refine box_event ?hg (N := 5) ?hd (cs := #[.string (⟨#[]⟩ : ByteArray), .int .i64 0, .bool false]) (t := 69) ?hr ?_; (case hd => rfl); (case hg => rfl); (case hr => first | (go_simp; done) | (go_simp; rfl)); intro gb202 hg w7 hbox hb; have n0_ := Aside0.mk (blk_below (g := gb198) (o := .cells #[.string (⟨#[]⟩ : ByteArray), .int .i64 0] 59 (0, 0)) (by (with_reducible repeat (first | refine blk_drewN ?_ _ | refine blk_drew ?_ | refine blk_alloc ?_ _)); exact BK198.out) hb); have n1_ := Aside0.mk (below_step (by repeat (first | (with_reducible first | exact HB.out | apply below_alloc | apply pw_below_drewN | apply below_drew1 | refine below_set ?_ GE198.out) | exact HB.out)) hb); have n2_ := Aside0.mk (hbox); have n3_ := Aside0.mk ((by rw [hg]; exact (below_size (by repeat (first | (with_reducible first | exact HB.out | apply below_alloc | apply pw_below_drewN | apply below_drew1 | refine below_set ?_ GE198.out) | exact HB.out))) : w.heap.size ≤ gb202)); have n4_ := Aside0.mk ((by rw [hg]; exact (below_size (by repeat (first | (with_reducible first | exact HB.out | apply below_alloc | apply pw_below_drewN | apply below_drew1 | refine below_set ?_ GE198.out) | exact HB.out))) : w.heap.size ≤ gb202)); have n5_ := Aside0.mk ((by rw [hg]; exact Nat.ne_of_lt (blk_lt (g := gb198) (o := .cells #[.string (⟨#[]⟩ : ByteArray), .int .i64 0] 59 (0, 0)) (by (with_reducible repeat (first | refine blk_drewN ?_ _ | refine blk_drew ?_ | refine blk_alloc ?_ _)); exact BK198.out)) : gb198 ≠ gb202)); have n6_ := Aside0.mk ((by rw [hg]; exact Nat.ne_of_gt (blk_lt (g := gb198) (o := .cells #[.string (⟨#[]⟩ : ByteArray), .int .i64 0] 59 (0, 0)) (by (with_reducible repeat (first | refine blk_drewN ?_ _ | refine blk_drew ?_ | refine blk_alloc ?_ _)); exact BK198.out)) : gb202 ≠ gb198)); clear BK198; clear HB; have BK198 := n0_; have HB := n1_; have BK202 := n2_; have GW202 := n3_; have GE202 := n4_; have NB198_202 := n5_; have NB202_198 := n6_; clear n0_ n1_ n2_ n3_ n4_ n5_ n6_; clear hb hbox hg; have hnb8 := NB202_198.out; have hnc8 := NB198_202.out; have hcz9_0 : w7.cell? ⟨gb202, 0, none⟩ = some (.string (⟨#[]⟩ : ByteArray)) := (blk_cell BK202.out 0).trans rfl; have hcz9_1 : w7.cell? ⟨gb202, 1, none⟩ = some (.int .i64 0) := (blk_cell BK202.out 1).trans rfl; have hcz9_2 : w7.cell? ⟨gb202, 2, none⟩ = some (.bool false) := (blk_cell BK202.out 2).trans rfl; have hfz9_0 := blk_frozen BK202.out 0; have hfz9_1 := blk_frozen BK202.out 1; have hfz9_2 := blk_frozen BK202.out 2))
  (try simp only [Act.put, List.setIfInBounds_toArray, List.set_cons_zero, List.set_cons_succ])
  go_cut [18] (fun v18 wc => ∃ (kq : Nat) (x18_3 : Bool), v18 = .bool x18_3 ∧ Aside0 (backseatref03_Take.j0 kq a0 a1 x18_3 t199 t200 t201 = some (r1, r2)) ∧ Aside0 (kq ≤ k) ∧ Aside0 (wc.heap[gb198]? = some (.cells #[.string (⟨#[]⟩ : ByteArray), .int .i64 0] 59 (0, 0))) ∧ Aside0 (wc.heap[gb202]? = some (.cells #[.string t199, .int .i64 t200, .bool t201] 69 (0, 0))) ∧ Aside0 (Below w.heap.size w wc))
  case first =>
    have H := HC4.out
    clear HC4
    by_cases c10 : t201 = true
    · subst c10
      have H1 : (backseatref03_Take.j0 k a0 a1 false t199 t200 true) = some (r1, r2) := by rw [if_pos rfl] at H; exact H
      clear H
      have H := H1
      clear H1
      have H' := Aside0.mk H
      clear H
      have hnb11 := NB202_198.out
      have hnc11 := NB198_202.out
      have hcz12_0 : w7.cell? ⟨gb202, 0, none⟩ = some (.string (⟨#[]⟩ : ByteArray)) := (blk_cell BK202.out 0).trans rfl
      have hcz12_1 : w7.cell? ⟨gb202, 1, none⟩ = some (.int .i64 0) := (blk_cell BK202.out 1).trans rfl
      have hcz12_2 : w7.cell? ⟨gb202, 2, none⟩ = some (.bool false) := (blk_cell BK202.out 2).trans rfl
      have hfz12_0 := blk_frozen BK202.out 0
      have hfz12_1 := blk_frozen BK202.out 1
      have hfz12_2 := blk_frozen BK202.out 2
      go_wp2
      go_meet
      case rel => exact ⟨_, (false), (by first | rfl | (simp; done) | (simp [*]; done)), H', ⟨by first | omega | exact Nat.le_refl _⟩, ⟨by (with_reducible repeat (first | refine blk_drewN ?_ _ | refine blk_drew ?_ | refine blk_alloc ?_ _)); refine blk_far ?_ NB198_202.out _; (with_reducible repeat (first | refine blk_drewN ?_ _ | refine blk_drew ?_ | refine blk_alloc ?_ _)); refine blk_far ?_ NB198_202.out _; (with_reducible repeat (first | refine blk_drewN ?_ _ | refine blk_drew ?_ | refine blk_alloc ?_ _)); refine blk_far ?_ NB198_202.out _; (with_reducible repeat (first | refine blk_drewN ?_ _ | refine blk_drew ?_ | refine blk_alloc ?_ _)); exact BK198.out⟩, ⟨by (with_reducible repeat (first | refine blk_drewN ?_ _ | refine blk_drew ?_ | refine blk_alloc ?_ _)); refine blk_put (cs := #[.string t199, .int .i64 t200, .bool false]) ?_ 2 _ rfl; (with_reducible repeat (first | refine blk_drewN ?_ _ | refine blk_drew ?_ | refine blk_alloc ?_ _)); refine blk_put (cs := #[.string t199, .int .i64 0, .bool false]) ?_ 1 _ rfl; (with_reducible repeat (first | refine blk_drewN ?_ _ | refine blk_drew ?_ | refine blk_alloc ?_ _)); refine blk_put (cs := #[.string (⟨#[]⟩ : ByteArray), .int .i64 0, .bool false]) ?_ 0 _ rfl; (with_reducible repeat (first | refine blk_drewN ?_ _ | refine blk_drew ?_ | refine blk_alloc ?_ _)); exact BK202.out⟩, ⟨by repeat (first | (with_reducible first | exact HB.out | apply below_alloc | apply pw_below_drewN | apply below_drew1 | refine below_set ?_ GE198.out | refine below_set ?_ GE202.out) | exact HB.out)⟩⟩
    · replace c10 := Bool.eq_false_iff.mpr c10
      subst c10
      have H1 : (if 0 < (a0.size : Int) then (backseatref03_Take.j0 k a0 a1 ((bt a0 0) == 27) t199 t200 false) else (none)) = some (r1, r2) := by rw [if_neg (show ¬ (false = true) by decide)] at H; exact H
      clear H
      have H := H1
      clear H1
      by_cases c13 : 0 < (a0.size : Int)
      · rw [if_pos c13] at H
        have c13b0 : decide (0 < (a0.size : Int)) = true := decide_eq_true c13
        have c13b1 : decide (0 < a0.size) = true := decide_eq_true (by omega)
        clear c13
        (first | rw [c13b0] | (simp only [i64_w, i32_w]; rw [c13b0]) | skip)
        have H' := Aside0.mk H
        clear H
        have hnb15 := NB202_198.out
        have hnc15 := NB198_202.out
        have hcz16_0 : w7.cell? ⟨gb202, 0, none⟩ = some (.string (⟨#[]⟩ : ByteArray)) := (blk_cell BK202.out 0).trans rfl
        have hcz16_1 : w7.cell? ⟨gb202, 1, none⟩ = some (.int .i64 0) := (blk_cell BK202.out 1).trans rfl
        have hcz16_2 : w7.cell? ⟨gb202, 2, none⟩ = some (.bool false) := (blk_cell BK202.out 2).trans rfl
        have hfz16_0 := blk_frozen BK202.out 0
        have hfz16_1 := blk_frozen BK202.out 1
        have hfz16_2 := blk_frozen BK202.out 2
        have p14 : 0 ≤ (0 : Int) := (by omega)
        have q14 : 0 < a0.size := (by have : (0 : Int) < (a0.size : Int) := of_decide_eq_true (by first | (with_reducible assumption) | assumption); omega)
        have hx14 : ∀ h : 0 < a0.size, ((a0[0]'h).toNat : Int) = bt a0 0 := bt_at a0 0
        clear p14
        have qi14 : (0 < (a0.size : Int)) = True := eq_true (of_decide_eq_true (by first | (with_reducible assumption) | assumption))
        replace q14 := eq_true q14
        go_wp2
        go_meet
        case rel => exact ⟨_, (((bt a0 0) == 27)), (by first | rfl | (simp; done) | (simp [*]; done)), H', ⟨by first | omega | exact Nat.le_refl _⟩, ⟨by (with_reducible repeat (first | refine blk_drewN ?_ _ | refine blk_drew ?_ | refine blk_alloc ?_ _)); refine blk_far ?_ NB198_202.out _; (with_reducible repeat (first | refine blk_drewN ?_ _ | refine blk_drew ?_ | refine blk_alloc ?_ _)); refine blk_far ?_ NB198_202.out _; (with_reducible repeat (first | refine blk_drewN ?_ _ | refine blk_drew ?_ | refine blk_alloc ?_ _)); refine blk_far ?_ NB198_202.out _; (with_reducible repeat (first | refine blk_drewN ?_ _ | refine blk_drew ?_ | refine blk_alloc ?_ _)); exact BK198.out⟩, ⟨by (with_reducible repeat (first | refine blk_drewN ?_ _ | refine blk_drew ?_ | refine blk_alloc ?_ _)); refine blk_put (cs := #[.string t199, .int .i64 t200, .bool false]) ?_ 2 _ rfl; (with_reducible repeat (first | refine blk_drewN ?_ _ | refine blk_drew ?_ | refine blk_alloc ?_ _)); refine blk_put (cs := #[.string t199, .int .i64 0, .bool false]) ?_ 1 _ rfl; (with_reducible repeat (first | refine blk_drewN ?_ _ | refine blk_drew ?_ | refine blk_alloc ?_ _)); refine blk_put (cs := #[.string (⟨#[]⟩ : ByteArray), .int .i64 0, .bool false]) ?_ 0 _ rfl; (with_reducible repeat (first | refine blk_drewN ?_ _ | refine blk_drew ?_ | refine blk_alloc ?_ _)); exact BK202.out⟩, ⟨by repeat (first | (with_reducible first | exact HB.out | apply below_alloc | apply pw_below_drewN | apply below_drew1 | refine below_set ?_ GE198.out | refine below_set ?_ GE202.out) | exact HB.out)⟩⟩
      · rw [if_neg c13] at H
        exact absurd H (by simp)
  case rest =>
    clear HC4
    try clear c1
    try clear p1
    try clear q1
    try clear hx1
    try clear qi1
    try clear c2
    try clear p2
    try clear c8
    try clear c10
    try clear c11
    try clear c13
    try clear c13b0
    try clear c13b1
    try clear p14
    try clear q14
    try clear hx14
    try clear qi14
    try clear c15
    try clear c16
    try clear hcz12_0
    try clear hcz12_1
    try clear hcz12_2
    try clear hcz16_0
    try clear hcz16_1
    try clear hcz16_2
    try clear hcz9_0
    try clear hcz9_1
    try clear hcz9_2
    try clear hfz12_0
    try clear hfz12_1
    try clear hfz12_2
    try clear hfz16_0
    try clear hfz16_1
    try clear hfz16_2
    try clear hfz9_0
    try clear hfz9_1
    try clear hfz9_2
    try clear p14
    try clear q14
    obtain ⟨kq, x18_3, rfl, HA, HJ3, BK198, BK202, HB⟩ := hcut
    cases kq with
    | zero => exact absurd HA.out (by simp [backseatref03_Take.j0])
    | succ kj3 =>
      have H := HA.out
      clear HA
      simp only [backseatref03_Take.j0] at H
      have HC17 := Aside0.mk H
      clear H
      go_upto_if 18 with (fail)
      go_cut [] (fun wc => ∃ (kq : Nat) (x203000_16 : ByteArray) (x203001_16 : Int) (x203002_16 : Bool), Aside0 (backseatref03_Take.j1 kq a0 a1 x203000_16 x203001_16 x203002_16 = some (r1, r2)) ∧ Aside0 (kq ≤ kj3) ∧ Aside0 (wc.heap[gb198]? = some (.cells #[.string (⟨#[]⟩ : ByteArray), .int .i64 0] 59 (0, 0))) ∧ Aside0 (wc.heap[gb202]? = some (.cells #[.string x203000_16, .int .i64 x203001_16, .bool x203002_16] 69 (0, 0))) ∧ Aside0 (Below w.heap.size w wc))
      case first =>
        have H := HC17.out
        clear HC17
        by_cases c18 : x18_3 = true
        · subst c18
          have H1 : ((backseatref03_sequence.f kj3 a0 a1).bind fun bt203 => (backseatref03_Take.j1 kj3 a0 a1 bt203.1 bt203.2.1 bt203.2.2)) = some (r1, r2) := by rw [if_pos rfl] at H; exact H
          clear H
          have H := H1
          clear H1
          replace H := Option.bind_eq_some_iff.mp H
          obtain ⟨⟨t203, t204, t205⟩, A190, H⟩ := H
          replace H : (backseatref03_Take.j1 kj3 a0 a1 t203 t204 t205) = some (r1, r2) := H
          have A19 := Aside0.mk A190
          clear A190
          have H' := Aside0.mk H
          clear H
          go_wp2_with (first | ((with_reducible refine gate_callee (f := 28) rfl ?_); refine goesL_ (some 21) rfl rfl Tryd.func28 (by kernel_rfl) rfl #[.string a0, .bool a1] rfl (by (try simp only [List.map_toArray, List.map_cons, List.map_nil]); first | done | rfl | (simp only [List.length_drop, List.length_take]; rfl)) ?_; (with_reducible refine (backseatref03_sequence.calls kj3 a0 a1 t203 t204 t205 _ A19.out).mono ?_); rintro e w20 ⟨rfl, hb⟩; refine ⟨_, rfl, ?_⟩; have n0_ := Aside0.mk (blk_below (g := gb198) (o := .cells #[.string (⟨#[]⟩ : ByteArray), .int .i64 0] 59 (0, 0)) (by (with_reducible repeat (first | refine blk_drewN ?_ _ | refine blk_drew ?_ | refine blk_alloc ?_ _)); exact BK198.out) hb); have n1_ := Aside0.mk (blk_below (g := gb202) (o := .cells #[.string t199, .int .i64 t200, .bool t201] 69 (0, 0)) (by (with_reducible repeat (first | refine blk_drewN ?_ _ | refine blk_drew ?_ | refine blk_alloc ?_ _)); exact BK202.out) hb); have n2_ := Aside0.mk (below_step (by repeat (first | (with_reducible first | exact HB.out | apply below_alloc | apply pw_below_drewN | apply below_drew1 | refine below_set ?_ GE198.out | refine below_set ?_ GE202.out) | exact HB.out)) hb); clear BK198; clear BK202; clear HB; have BK198 := n0_; have BK202 := n1_; have HB := n2_; clear n0_ n1_ n2_; (try clear hb); (try clear hb2); (try clear hk); (try clear hi); have hnb21 := NB202_198.out; have hnc21 := NB198_202.out; have hcz22_0 : w20.cell? ⟨gb202, 0, none⟩ = some (.string t199) := (blk_cell BK202.out 0).trans rfl; have hcz22_1 : w20.cell? ⟨gb202, 1, none⟩ = some (.int .i64 t200) := (blk_cell BK202.out 1).trans rfl; have hcz22_2 : w20.cell? ⟨gb202, 2, none⟩ = some (.bool t201) := (blk_cell BK202.out 2).trans rfl; have hfz22_0 := blk_frozen BK202.out 0; have hfz22_1 := blk_frozen BK202.out 1; have hfz22_2 := blk_frozen BK202.out 2))
          go_meet
          case rel => exact ⟨_, (t203), (t204), (t205), H', ⟨by have := HJ3.out; first | omega | exact Nat.le_refl _⟩, ⟨by (with_reducible repeat (first | refine blk_drewN ?_ _ | refine blk_drew ?_ | refine blk_alloc ?_ _)); refine blk_far ?_ NB198_202.out _; (with_reducible repeat (first | refine blk_drewN ?_ _ | refine blk_drew ?_ | refine blk_alloc ?_ _)); refine blk_far ?_ NB198_202.out _; (with_reducible repeat (first | refine blk_drewN ?_ _ | refine blk_drew ?_ | refine blk_alloc ?_ _)); refine blk_far ?_ NB198_202.out _; (with_reducible repeat (first | refine blk_drewN ?_ _ | refine blk_drew ?_ | refine blk_alloc ?_ _)); exact BK198.out⟩, ⟨by (with_reducible repeat (first | refine blk_drewN ?_ _ | refine blk_drew ?_ | refine blk_alloc ?_ _)); refine blk_put (cs := #[.string t203, .int .i64 t204, .bool t201]) ?_ 2 _ rfl; (with_reducible repeat (first | refine blk_drewN ?_ _ | refine blk_drew ?_ | refine blk_alloc ?_ _)); refine blk_put (cs := #[.string t203, .int .i64 t200, .bool t201]) ?_ 1 _ rfl; (with_reducible repeat (first | refine blk_drewN ?_ _ | refine blk_drew ?_ | refine blk_alloc ?_ _)); refine blk_put (cs := #[.string t199, .int .i64 t200, .bool t201]) ?_ 0 _ rfl; (with_reducible repeat (first | refine blk_drewN ?_ _ | refine blk_drew ?_ | refine blk_alloc ?_ _)); exact BK202.out⟩, ⟨by repeat (first | (with_reducible first | exact HB.out | apply below_alloc | apply pw_below_drewN | apply below_drew1 | refine below_set ?_ GE198.out | refine below_set ?_ GE202.out) | exact HB.out)⟩⟩
        · replace c18 := Bool.eq_false_iff.mpr c18
          subst c18
          have H1 : (backseatref03_Take.j1 kj3 a0 a1 t199 t200 t201) = some (r1, r2) := by rw [if_neg (show ¬ (false = true) by decide)] at H; exact H
          clear H
          have H := H1
          clear H1
          have H' := Aside0.mk H
          clear H
          go_wp2
          go_meet
          case rel => exact ⟨_, (t199), (t200), (t201), H', ⟨by have := HJ3.out; first | omega | exact Nat.le_refl _⟩, ⟨by (with_reducible repeat (first | refine blk_drewN ?_ _ | refine blk_drew ?_ | refine blk_alloc ?_ _)); exact BK198.out⟩, ⟨by (with_reducible repeat (first | refine blk_drewN ?_ _ | refine blk_drew ?_ | refine blk_alloc ?_ _)); exact BK202.out⟩, ⟨by repeat (first | (with_reducible first | exact HB.out | apply below_alloc | apply pw_below_drewN | apply below_drew1 | refine below_set ?_ GE198.out | refine below_set ?_ GE202.out) | exact HB.out)⟩⟩
      case rest =>
        clear HC17
        try clear c1
        try clear p1
        try clear q1
        try clear hx1
        try clear qi1
        try clear c2
        try clear p2
        try clear c8
        try clear c10
        try clear c11
        try clear c13
        try clear c13b0
        try clear c13b1
        try clear p14
        try clear q14
        try clear hx14
        try clear qi14
        try clear c15
        try clear c16
        try clear c18
        try clear c21
        try clear hcz12_0
        try clear hcz12_1
        try clear hcz12_2
        try clear hcz16_0
        try clear hcz16_1
        try clear hcz16_2
        try clear hcz22_0
        try clear hcz22_1
        try clear hcz22_2
        try clear hcz9_0
        try clear hcz9_1
        try clear hcz9_2
        try clear hfz12_0
        try clear hfz12_1
        try clear hfz12_2
        try clear hfz16_0
        try clear hfz16_1
        try clear hfz16_2
        try clear hfz22_0
        try clear hfz22_1
        try clear hfz22_2
        try clear hfz9_0
        try clear hfz9_1
        try clear hfz9_2
        try clear p1
        try clear p14
        try clear p2
        try clear q1
        try clear q14
        obtain ⟨kq, x203000_16, x203001_16, x203002_16, HA, HJ16, BK198, BK202, HB⟩ := hcut
        cases kq with
        | zero => exact absurd HA.out (by simp [backseatref03_Take.j1])
        | succ kj16 =>
          have H := HA.out
          clear HA
          simp only [backseatref03_Take.j1] at H
          have HC23 := Aside0.mk H
          clear H
          go_upto_region 4 with (fail)
          go_cut [29] (fun v29 wc => ∃ (kq : Nat) (x29_22 : Bool), v29 = .bool x29_22 ∧ Aside0 (backseatref03_Take.j2 kq a0 a1 x29_22 x203000_16 x203001_16 x203002_16 = some (r1, r2)) ∧ Aside0 (kq ≤ kj16) ∧ Aside0 (wc.heap[gb198]? = some (.cells #[.string (⟨#[]⟩ : ByteArray), .int .i64 0] 59 (0, 0))) ∧ Aside0 (wc.heap[gb202]? = some (.cells #[.string x203000_16, .int .i64 x203001_16, .bool x203002_16] 69 (0, 0))) ∧ Aside0 (Below w.heap.size w wc))
          case first =>
            have H := HC23.out
            clear HC23
            by_cases c24 : x203002_16 = true
            · subst c24
              have H1 : (backseatref03_Take.j2 kj16 a0 a1 false x203000_16 x203001_16 true) = some (r1, r2) := by rw [if_pos rfl] at H; exact H
              clear H
              have H := H1
              clear H1
              have H' := Aside0.mk H
              clear H
              have hnb25 := NB202_198.out
              have hnc25 := NB198_202.out
              have hcz26_0 : wc.cell? ⟨gb202, 0, none⟩ = some (.string x203000_16) := (blk_cell BK202.out 0).trans rfl
              have hcz26_1 : wc.cell? ⟨gb202, 1, none⟩ = some (.int .i64 x203001_16) := (blk_cell BK202.out 1).trans rfl
              have hcz26_2 : wc.cell? ⟨gb202, 2, none⟩ = some (.bool true) := (blk_cell BK202.out 2).trans rfl
              have hfz26_0 := blk_frozen BK202.out 0
              have hfz26_1 := blk_frozen BK202.out 1
              have hfz26_2 := blk_frozen BK202.out 2
              go_wp2
              go_meet
              case rel => exact ⟨_, (false), (by first | rfl | (simp; done) | (simp [*]; done)), H', ⟨by have := HJ3.out; have := HJ16.out; first | omega | exact Nat.le_refl _⟩, ⟨by (with_reducible repeat (first | refine blk_drewN ?_ _ | refine blk_drew ?_ | refine blk_alloc ?_ _)); exact BK198.out⟩, ⟨by (with_reducible repeat (first | refine blk_drewN ?_ _ | refine blk_drew ?_ | refine blk_alloc ?_ _)); exact BK202.out⟩, ⟨by repeat (first | (with_reducible first | exact HB.out | apply below_alloc | apply pw_below_drewN | apply below_drew1 | refine below_set ?_ GE198.out | refine below_set ?_ GE202.out) | exact HB.out)⟩⟩
            · replace c24 := Bool.eq_false_iff.mpr c24
              subst c24
              have H1 : (if 0 < (a0.size : Int) then (backseatref03_Take.j2 kj16 a0 a1 ((bt a0 0) == 27) x203000_16 x203001_16 false) else (none)) = some (r1, r2) := by rw [if_neg (show ¬ (false = true) by decide)] at H; exact H
              clear H
              have H := H1
              clear H1
              by_cases c27 : 0 < (a0.size : Int)
              · rw [if_pos c27] at H
                have c27b0 : decide (0 < (a0.size : Int)) = true := decide_eq_true c27
                have c27b1 : decide (0 < a0.size) = true := decide_eq_true (by omega)
                clear c27
                (first | rw [c27b0] | (simp only [i64_w, i32_w]; rw [c27b0]) | skip)
                have H' := Aside0.mk H
                clear H
                have hnb29 := NB202_198.out
                have hnc29 := NB198_202.out
                have hcz30_0 : wc.cell? ⟨gb202, 0, none⟩ = some (.string x203000_16) := (blk_cell BK202.out 0).trans rfl
                have hcz30_1 : wc.cell? ⟨gb202, 1, none⟩ = some (.int .i64 x203001_16) := (blk_cell BK202.out 1).trans rfl
                have hcz30_2 : wc.cell? ⟨gb202, 2, none⟩ = some (.bool false) := (blk_cell BK202.out 2).trans rfl
                have hfz30_0 := blk_frozen BK202.out 0
                have hfz30_1 := blk_frozen BK202.out 1
                have hfz30_2 := blk_frozen BK202.out 2
                have p28 : 0 ≤ (0 : Int) := (by omega)
                have q28 : 0 < a0.size := (by have : (0 : Int) < (a0.size : Int) := of_decide_eq_true (by first | (with_reducible assumption) | assumption); omega)
                have hx28 : ∀ h : 0 < a0.size, ((a0[0]'h).toNat : Int) = bt a0 0 := bt_at a0 0
                clear p28
                have qi28 : (0 < (a0.size : Int)) = True := eq_true (of_decide_eq_true (by first | (with_reducible assumption) | assumption))
                replace q28 := eq_true q28
                go_wp2
                go_meet
                case rel => exact ⟨_, (((bt a0 0) == 27)), (by first | rfl | (simp; done) | (simp [*]; done)), H', ⟨by have := HJ3.out; have := HJ16.out; first | omega | exact Nat.le_refl _⟩, ⟨by (with_reducible repeat (first | refine blk_drewN ?_ _ | refine blk_drew ?_ | refine blk_alloc ?_ _)); exact BK198.out⟩, ⟨by (with_reducible repeat (first | refine blk_drewN ?_ _ | refine blk_drew ?_ | refine blk_alloc ?_ _)); exact BK202.out⟩, ⟨by repeat (first | (with_reducible first | exact HB.out | apply below_alloc | apply pw_below_drewN | apply below_drew1 | refine below_set ?_ GE198.out | refine below_set ?_ GE202.out) | exact HB.out)⟩⟩
              · rw [if_neg c27] at H
                exact absurd H (by simp)
          case rest =>
            clear HC23
            try clear c1
            try clear p1
            try clear q1
            try clear hx1
            try clear qi1
            try clear c2
            try clear p2
            try clear q2
            try clear hx2
            try clear qi2
            try clear c8
            try clear c10
            try clear c11
            try clear c13
            try clear c13b0
            try clear c13b1
            try clear p14
            try clear q14
            try clear hx14
            try clear qi14
            try clear c15
            try clear c16
            try clear c18
            try clear c21
            try clear c24
            try clear c25
            try clear c27
            try clear c27b0
            try clear c27b1
            try clear c28
            try clear p28
            try clear q28
            try clear hx28
            try clear qi28
            try clear c29
            try clear hcz12_0
            try clear hcz12_1
            try clear hcz12_2
            try clear hcz16_0
            try clear hcz16_1
            try clear hcz16_2
            try clear hcz22_0
            try clear hcz22_1
            try clear hcz22_2
            try clear hcz26_0
            try clear hcz26_1
            try clear hcz26_2
            try clear hcz30_0
            try clear hcz30_1
            try clear hcz30_2
            try clear hcz9_0
            try clear hcz9_1
            try clear hcz9_2
            try clear hfz12_0
            try clear hfz12_1
            try clear hfz12_2
            try clear hfz16_0
            try clear hfz16_1
            try clear hfz16_2
            try clear hfz22_0
            try clear hfz22_1
            try clear hfz22_2
            try clear hfz26_0
            try clear hfz26_1
            try clear hfz26_2
            try clear hfz30_0
            try clear hfz30_1
            try clear hfz30_2
            try clear hfz9_0
            try clear hfz9_1
            try clear hfz9_2
            try clear p1
            try clear p14
            try clear p2
            try clear p28
            try clear q1
            try clear q14
            try clear q28
            obtain ⟨kq, x29_22, rfl, HA, HJ22, BK198, BK202, HB⟩ := hcut
            cases kq with
            | zero => exact absurd HA.out (by simp [backseatref03_Take.j2])
            | succ kj22 =>
              have H := HA.out
              clear HA
              simp only [backseatref03_Take.j2] at H
              have HC31 := Aside0.mk H
              clear H
              go_upto_if 29 with (fail)
              go_cut [] (fun wc => ∃ (kq : Nat) (x203000_30 : ByteArray) (x203001_30 : Int) (x203002_30 : Bool), Aside0 (backseatref03_Take.j3 kq a0 a1 x203000_30 x203001_30 x203002_30 = some (r1, r2)) ∧ Aside0 (kq ≤ kj22) ∧ Aside0 (wc.heap[gb198]? = some (.cells #[.string (⟨#[]⟩ : ByteArray), .int .i64 0] 59 (0, 0))) ∧ Aside0 (wc.heap[gb202]? = some (.cells #[.string x203000_30, .int .i64 x203001_30, .bool x203002_30] 69 (0, 0))) ∧ Aside0 (Below w.heap.size w wc))
              case first =>
                have H := HC31.out
                clear HC31
                by_cases c32 : x29_22 = true
                · subst c32
                  have H1 : ((backseatref03_meta.f kj22 a0 a1).bind fun bt206 => (backseatref03_Take.j3 kj22 a0 a1 bt206.1 bt206.2.1 bt206.2.2)) = some (r1, r2) := by rw [if_pos rfl] at H; exact H
                  clear H
                  have H := H1
                  clear H1
                  replace H := Option.bind_eq_some_iff.mp H
                  obtain ⟨⟨t206, t207, t208⟩, A330, H⟩ := H
                  replace H : (backseatref03_Take.j3 kj22 a0 a1 t206 t207 t208) = some (r1, r2) := H
                  have A33 := Aside0.mk A330
                  clear A330
                  have H' := Aside0.mk H
                  clear H
                  go_wp2_with (first | ((with_reducible refine gate_callee (f := 29) rfl ?_); refine goesL_ (some 32) rfl rfl Tryd.func29 (by kernel_rfl) rfl #[.string a0, .bool a1] rfl (by (try simp only [List.map_toArray, List.map_cons, List.map_nil]); first | done | rfl | (simp only [List.length_drop, List.length_take]; rfl)) ?_; (with_reducible refine (backseatref03_meta.calls kj22 a0 a1 t206 t207 t208 _ A33.out).mono ?_); rintro e w34 ⟨rfl, hb⟩; refine ⟨_, rfl, ?_⟩; have n0_ := Aside0.mk (blk_below (g := gb198) (o := .cells #[.string (⟨#[]⟩ : ByteArray), .int .i64 0] 59 (0, 0)) (by (with_reducible repeat (first | refine blk_drewN ?_ _ | refine blk_drew ?_ | refine blk_alloc ?_ _)); exact BK198.out) hb); have n1_ := Aside0.mk (blk_below (g := gb202) (o := .cells #[.string x203000_16, .int .i64 x203001_16, .bool x203002_16] 69 (0, 0)) (by (with_reducible repeat (first | refine blk_drewN ?_ _ | refine blk_drew ?_ | refine blk_alloc ?_ _)); exact BK202.out) hb); have n2_ := Aside0.mk (below_step (by repeat (first | (with_reducible first | exact HB.out | apply below_alloc | apply pw_below_drewN | apply below_drew1 | refine below_set ?_ GE198.out | refine below_set ?_ GE202.out) | exact HB.out)) hb); clear BK198; clear BK202; clear HB; have BK198 := n0_; have BK202 := n1_; have HB := n2_; clear n0_ n1_ n2_; (try clear hb); (try clear hb2); (try clear hk); (try clear hi); have hnb35 := NB202_198.out; have hnc35 := NB198_202.out; have hcz36_0 : w34.cell? ⟨gb202, 0, none⟩ = some (.string x203000_16) := (blk_cell BK202.out 0).trans rfl; have hcz36_1 : w34.cell? ⟨gb202, 1, none⟩ = some (.int .i64 x203001_16) := (blk_cell BK202.out 1).trans rfl; have hcz36_2 : w34.cell? ⟨gb202, 2, none⟩ = some (.bool x203002_16) := (blk_cell BK202.out 2).trans rfl; have hfz36_0 := blk_frozen BK202.out 0; have hfz36_1 := blk_frozen BK202.out 1; have hfz36_2 := blk_frozen BK202.out 2))
                  go_meet
                  case rel => exact ⟨_, (t206), (t207), (t208), H', ⟨by have := HJ3.out; have := HJ16.out; have := HJ22.out; first | omega | exact Nat.le_refl _⟩, ⟨by (with_reducible repeat (first | refine blk_drewN ?_ _ | refine blk_drew ?_ | refine blk_alloc ?_ _)); refine blk_far ?_ NB198_202.out _; (with_reducible repeat (first | refine blk_drewN ?_ _ | refine blk_drew ?_ | refine blk_alloc ?_ _)); refine blk_far ?_ NB198_202.out _; (with_reducible repeat (first | refine blk_drewN ?_ _ | refine blk_drew ?_ | refine blk_alloc ?_ _)); refine blk_far ?_ NB198_202.out _; (with_reducible repeat (first | refine blk_drewN ?_ _ | refine blk_drew ?_ | refine blk_alloc ?_ _)); exact BK198.out⟩, ⟨by (with_reducible repeat (first | refine blk_drewN ?_ _ | refine blk_drew ?_ | refine blk_alloc ?_ _)); refine blk_put (cs := #[.string t206, .int .i64 t207, .bool x203002_16]) ?_ 2 _ rfl; (with_reducible repeat (first | refine blk_drewN ?_ _ | refine blk_drew ?_ | refine blk_alloc ?_ _)); refine blk_put (cs := #[.string t206, .int .i64 x203001_16, .bool x203002_16]) ?_ 1 _ rfl; (with_reducible repeat (first | refine blk_drewN ?_ _ | refine blk_drew ?_ | refine blk_alloc ?_ _)); refine blk_put (cs := #[.string x203000_16, .int .i64 x203001_16, .bool x203002_16]) ?_ 0 _ rfl; (with_reducible repeat (first | refine blk_drewN ?_ _ | refine blk_drew ?_ | refine blk_alloc ?_ _)); exact BK202.out⟩, ⟨by repeat (first | (with_reducible first | exact HB.out | apply below_alloc | apply pw_below_drewN | apply below_drew1 | refine below_set ?_ GE198.out | refine below_set ?_ GE202.out) | exact HB.out)⟩⟩
                · replace c32 := Bool.eq_false_iff.mpr c32
                  subst c32
                  have H1 : (backseatref03_Take.j3 kj22 a0 a1 x203000_16 x203001_16 x203002_16) = some (r1, r2) := by rw [if_neg (show ¬ (false = true) by decide)] at H; exact H
                  clear H
                  have H := H1
                  clear H1
                  have H' := Aside0.mk H
                  clear H
                  go_wp2
                  go_meet
                  case rel => exact ⟨_, (x203000_16), (x203001_16), (x203002_16), H', ⟨by have := HJ3.out; have := HJ16.out; have := HJ22.out; first | omega | exact Nat.le_refl _⟩, ⟨by (with_reducible repeat (first | refine blk_drewN ?_ _ | refine blk_drew ?_ | refine blk_alloc ?_ _)); exact BK198.out⟩, ⟨by (with_reducible repeat (first | refine blk_drewN ?_ _ | refine blk_drew ?_ | refine blk_alloc ?_ _)); exact BK202.out⟩, ⟨by repeat (first | (with_reducible first | exact HB.out | apply below_alloc | apply pw_below_drewN | apply below_drew1 | refine below_set ?_ GE198.out | refine below_set ?_ GE202.out) | exact HB.out)⟩⟩
              case rest =>
                clear HC31
                try clear c1
                try clear p1
                try clear q1
                try clear hx1
                try clear qi1
                try clear c2
                try clear p2
                try clear q2
                try clear hx2
                try clear qi2
                try clear c3
                try clear c8
                try clear c10
                try clear c11
                try clear c13
                try clear c13b0
                try clear c13b1
                try clear p14
                try clear q14
                try clear hx14
                try clear qi14
                try clear c15
                try clear c16
                try clear c18
                try clear c21
                try clear c24
                try clear c25
                try clear c27
                try clear c27b0
                try clear c27b1
                try clear c28
                try clear p28
                try clear q28
                try clear hx28
                try clear qi28
                try clear c29
                try clear c32
                try clear c35
                try clear hcz12_0
                try clear hcz12_1
                try clear hcz12_2
                try clear hcz16_0
                try clear hcz16_1
                try clear hcz16_2
                try clear hcz22_0
                try clear hcz22_1
                try clear hcz22_2
                try clear hcz26_0
                try clear hcz26_1
                try clear hcz26_2
                try clear hcz30_0
                try clear hcz30_1
                try clear hcz30_2
                try clear hcz36_0
                try clear hcz36_1
                try clear hcz36_2
                try clear hcz9_0
                try clear hcz9_1
                try clear hcz9_2
                try clear hfz12_0
                try clear hfz12_1
                try clear hfz12_2
                try clear hfz16_0
                try clear hfz16_1
                try clear hfz16_2
                try clear hfz22_0
                try clear hfz22_1
                try clear hfz22_2
                try clear hfz26_0
                try clear hfz26_1
                try clear hfz26_2
                try clear hfz30_0
                try clear hfz30_1
                try clear hfz30_2
                try clear hfz36_0
                try clear hfz36_1
                try clear hfz36_2
                try clear hfz9_0
                try clear hfz9_1
                try clear hfz9_2
                try clear p1
                try clear p14
                try clear p2
                try clear p28
                try clear q1
                try clear q14
                try clear q2
                try clear q28
                obtain ⟨kq, x203000_30, x203001_30, x203002_30, HA, HJ30, BK198, BK202, HB⟩ := hcut
                cases kq with
                | zero => exact absurd HA.out (by simp [backseatref03_Take.j3])
                | succ kj30 =>
                  have H := HA.out
                  clear HA
                  simp only [backseatref03_Take.j3] at H
                  by_cases c37 : x203002_30 = true
                  · subst c37
                    have H1 : (some (x203000_30, x203001_30)) = some (r1, r2) := by rw [if_pos rfl] at H; exact H
                    clear H
                    have H := H1
                    clear H1
                    simp only [Option.some.injEq, Prod.mk.injEq] at H
                    obtain ⟨rfl, rfl⟩ := H
                    have hnb38 := NB202_198.out
                    have hnc38 := NB198_202.out
                    have hcz39_0 : wc.cell? ⟨gb202, 0, none⟩ = some (.string x203000_30) := (blk_cell BK202.out 0).trans rfl
                    have hcz39_1 : wc.cell? ⟨gb202, 1, none⟩ = some (.int .i64 x203001_30) := (blk_cell BK202.out 1).trans rfl
                    have hcz39_2 : wc.cell? ⟨gb202, 2, none⟩ = some (.bool true) := (blk_cell BK202.out 2).trans rfl
                    have hfz39_0 := blk_frozen BK202.out 0
                    have hfz39_1 := blk_frozen BK202.out 1
                    have hfz39_2 := blk_frozen BK202.out 2
                    have hcz40_0 : wc.cell? ⟨gb198, 0, none⟩ = some (.string (⟨#[]⟩ : ByteArray)) := (blk_cell BK198.out 0).trans rfl
                    have hcz40_1 : wc.cell? ⟨gb198, 1, none⟩ = some (.int .i64 0) := (blk_cell BK198.out 1).trans rfl
                    have hfz40_0 := blk_frozen BK198.out 0
                    have hfz40_1 := blk_frozen BK198.out 1
                    go_wp2
                    refine bodyPost_ret (results_cell_row rfl _ _ gb198 59 #[.string x203000_30, .int .i64 x203001_30] (0, 0) _ rfl (by (with_reducible repeat (first | refine blk_drewN ?_ _ | refine blk_drew ?_ | refine blk_alloc ?_ _)); refine blk_put (cs := #[.string x203000_30, .int .i64 0]) ?_ 1 _ rfl; (with_reducible repeat (first | refine blk_drewN ?_ _ | refine blk_drew ?_ | refine blk_alloc ?_ _)); refine blk_put (cs := #[.string (⟨#[]⟩ : ByteArray), .int .i64 0]) ?_ 0 _ rfl; (with_reducible repeat (first | refine blk_drewN ?_ _ | refine blk_drew ?_ | refine blk_alloc ?_ _)); exact BK198.out) Tryd.underlying59 rfl (by kernel_rfl)) rfl ?_
                    exact ⟨by first | rfl | (simp [errW_none, errW_some] <;> rfl) | (simp [*, errW_none, errW_some] <;> rfl), by repeat (first | (with_reducible first | exact HB.out | apply below_alloc | apply pw_below_drewN | apply below_drew1 | refine below_set ?_ GE198.out | refine below_set ?_ GE202.out) | exact HB.out)⟩
                  · replace c37 := Bool.eq_false_iff.mpr c37
                    subst c37
                    have H1 : (if 0 < (a0.size : Int) then (if (bt a0 0) = 27 then (some ((⟨#[69, 115, 99]⟩ : ByteArray), 1)) else ((backseatref03_Letter.f kj30 a0).bind fun t209 => (if t209.toList = ([] : List UInt8) then ((backseatref01_First.f kj30 a0).bind fun bt210 => (if bt210.2.2 = 2 then (backseatref03_Take.j4 kj30 (!a1) bt210.1 bt210.2.1 bt210.2.2) else (backseatref03_Take.j4 kj30 false bt210.1 bt210.2.1 bt210.2.2))) else (some (t209, (t209.size : Int)))))) else (none)) = some (r1, r2) := by rw [if_neg (show ¬ (false = true) by decide)] at H; exact H
                    clear H
                    have H := H1
                    clear H1
                    by_cases c41 : 0 < (a0.size : Int)
                    · rw [if_pos c41] at H
                      have c41b0 : decide (0 < (a0.size : Int)) = true := decide_eq_true c41
                      have c41b1 : decide (0 < a0.size) = true := decide_eq_true (by omega)
                      clear c41
                      by_cases c43 : (bt a0 0) = 27
                      · rw [if_pos c43] at H
                        have c43b0 : ((bt a0 0) == 27) = true := beq_iff_eq.mpr c43
                        have c43b1 : ((bt a0 0) != 27) = false := bne_eq_false_iff_eq.mpr c43
                        clear c43
                        simp only [Option.some.injEq, Prod.mk.injEq] at H
                        obtain ⟨rfl, rfl⟩ := H
                        have hnb44 := NB202_198.out
                        have hnc44 := NB198_202.out
                        have hcz45_0 : wc.cell? ⟨gb202, 0, none⟩ = some (.string x203000_30) := (blk_cell BK202.out 0).trans rfl
                        have hcz45_1 : wc.cell? ⟨gb202, 1, none⟩ = some (.int .i64 x203001_30) := (blk_cell BK202.out 1).trans rfl
                        have hcz45_2 : wc.cell? ⟨gb202, 2, none⟩ = some (.bool false) := (blk_cell BK202.out 2).trans rfl
                        have hfz45_0 := blk_frozen BK202.out 0
                        have hfz45_1 := blk_frozen BK202.out 1
                        have hfz45_2 := blk_frozen BK202.out 2
                        have p42 : 0 ≤ (0 : Int) := (by omega)
                        have q42 : 0 < a0.size := (by have : (0 : Int) < (a0.size : Int) := of_decide_eq_true (by first | (with_reducible assumption) | assumption); omega)
                        have hx42 : ∀ h : 0 < a0.size, ((a0[0]'h).toNat : Int) = bt a0 0 := bt_at a0 0
                        clear p42
                        have qi42 : (0 < (a0.size : Int)) = True := eq_true (of_decide_eq_true (by first | (with_reducible assumption) | assumption))
                        replace q42 := eq_true q42
                        have hcz46_0 : wc.cell? ⟨gb198, 0, none⟩ = some (.string (⟨#[]⟩ : ByteArray)) := (blk_cell BK198.out 0).trans rfl
                        have hcz46_1 : wc.cell? ⟨gb198, 1, none⟩ = some (.int .i64 0) := (blk_cell BK198.out 1).trans rfl
                        have hfz46_0 := blk_frozen BK198.out 0
                        have hfz46_1 := blk_frozen BK198.out 1
                        go_wp2
                        refine bodyPost_ret (results_cell_row rfl _ _ gb198 59 #[.string (⟨#[69, 115, 99]⟩ : ByteArray), .int .i64 1] (0, 0) _ rfl (by (with_reducible repeat (first | refine blk_drewN ?_ _ | refine blk_drew ?_ | refine blk_alloc ?_ _)); refine blk_put (cs := #[.string (⟨#[69, 115, 99]⟩ : ByteArray), .int .i64 0]) ?_ 1 _ rfl; (with_reducible repeat (first | refine blk_drewN ?_ _ | refine blk_drew ?_ | refine blk_alloc ?_ _)); refine blk_put (cs := #[.string (⟨#[]⟩ : ByteArray), .int .i64 0]) ?_ 0 _ rfl; (with_reducible repeat (first | refine blk_drewN ?_ _ | refine blk_drew ?_ | refine blk_alloc ?_ _)); exact BK198.out) Tryd.underlying59 rfl (by kernel_rfl)) rfl ?_
                        exact ⟨by first | rfl | (simp [errW_none, errW_some] <;> rfl) | (simp [*, errW_none, errW_some] <;> rfl), by repeat (first | (with_reducible first | exact HB.out | apply below_alloc | apply pw_below_drewN | apply below_drew1 | refine below_set ?_ GE198.out | refine below_set ?_ GE202.out) | exact HB.out)⟩
                      · rw [if_neg c43] at H
                        have c43b0 : ((bt a0 0) == 27) = false := beq_eq_false_iff_ne.mpr c43
                        have c43b1 : ((bt a0 0) != 27) = true := bne_iff_ne.mpr c43
                        replace H := Option.bind_eq_some_iff.mp H
                        obtain ⟨t209, A470, H⟩ := H
                        replace H : (if t209.toList = ([] : List UInt8) then ((backseatref01_First.f kj30 a0).bind fun bt210 => (if bt210.2.2 = 2 then (backseatref03_Take.j4 kj30 (!a1) bt210.1 bt210.2.1 bt210.2.2) else (backseatref03_Take.j4 kj30 false bt210.1 bt210.2.1 bt210.2.2))) else (some (t209, (t209.size : Int)))) = some (r1, r2) := H
                        have A47 := Aside0.mk A470
                        clear A470
                        by_cases c48 : t209.toList = ([] : List UInt8)
                        · rw [if_pos c48] at H
                          have c48b0 : (t209.toList == ([] : List UInt8)) = true := beq_iff_eq.mpr c48
                          have c48b1 : (t209.toList != ([] : List UInt8)) = false := bne_eq_false_iff_eq.mpr c48
                          clear c48
                          replace H := Option.bind_eq_some_iff.mp H
                          obtain ⟨⟨t210, t211, t212⟩, A490, H⟩ := H
                          replace H : (if t212 = 2 then (backseatref03_Take.j4 kj30 (!a1) t210 t211 t212) else (backseatref03_Take.j4 kj30 false t210 t211 t212)) = some (r1, r2) := H
                          have A49 := Aside0.mk A490
                          clear A490
                          have HC50 := Aside0.mk H
                          clear H
                          have hnb51 := NB202_198.out
                          have hnc51 := NB198_202.out
                          have hcz52_0 : wc.cell? ⟨gb202, 0, none⟩ = some (.string x203000_30) := (blk_cell BK202.out 0).trans rfl
                          have hcz52_1 : wc.cell? ⟨gb202, 1, none⟩ = some (.int .i64 x203001_30) := (blk_cell BK202.out 1).trans rfl
                          have hcz52_2 : wc.cell? ⟨gb202, 2, none⟩ = some (.bool false) := (blk_cell BK202.out 2).trans rfl
                          have hfz52_0 := blk_frozen BK202.out 0
                          have hfz52_1 := blk_frozen BK202.out 1
                          have hfz52_2 := blk_frozen BK202.out 2
                          have p42 : 0 ≤ (0 : Int) := (by omega)
                          have q42 : 0 < a0.size := (by have : (0 : Int) < (a0.size : Int) := of_decide_eq_true (by first | (with_reducible assumption) | assumption); omega)
                          have hx42 : ∀ h : 0 < a0.size, ((a0[0]'h).toNat : Int) = bt a0 0 := bt_at a0 0
                          clear p42
                          have qi42 : (0 < (a0.size : Int)) = True := eq_true (of_decide_eq_true (by first | (with_reducible assumption) | assumption))
                          replace q42 := eq_true q42
                          go_upto_region 14 with (first | ((with_reducible refine gate_callee (f := 18) rfl ?_); refine goesL_ (some 42) rfl rfl Tryd.func18 (by kernel_rfl) rfl #[.string a0] rfl (by (try simp only [List.map_toArray, List.map_cons, List.map_nil]); first | done | rfl | (simp only [List.length_drop, List.length_take]; rfl)) ?_; (with_reducible refine (backseatref03_Letter.calls kj30 a0 t209 _ A47.out).mono ?_); rintro e w53 ⟨rfl, hb⟩; refine ⟨_, rfl, ?_⟩; have n0_ := Aside0.mk (blk_below (g := gb198) (o := .cells #[.string (⟨#[]⟩ : ByteArray), .int .i64 0] 59 (0, 0)) (by (with_reducible repeat (first | refine blk_drewN ?_ _ | refine blk_drew ?_ | refine blk_alloc ?_ _)); exact BK198.out) hb); have n1_ := Aside0.mk (blk_below (g := gb202) (o := .cells #[.string x203000_30, .int .i64 x203001_30, .bool false] 69 (0, 0)) (by (with_reducible repeat (first | refine blk_drewN ?_ _ | refine blk_drew ?_ | refine blk_alloc ?_ _)); exact BK202.out) hb); have n2_ := Aside0.mk (below_step (by repeat (first | (with_reducible first | exact HB.out | apply below_alloc | apply pw_below_drewN | apply below_drew1 | refine below_set ?_ GE198.out | refine below_set ?_ GE202.out) | exact HB.out)) hb); clear BK198; clear BK202; clear HB; have BK198 := n0_; have BK202 := n1_; have HB := n2_; clear n0_ n1_ n2_; (try clear hb); (try clear hb2); (try clear hk); (try clear hi)) | ((with_reducible refine gate_callee (f := 30) rfl ?_); refine goesL_ (some 50) rfl rfl Tryd.func30 (by kernel_rfl) rfl #[.string a0] rfl (by (try simp only [List.map_toArray, List.map_cons, List.map_nil]); first | done | rfl | (simp only [List.length_drop, List.length_take]; rfl)) ?_; (with_reducible refine (backseatref01_First.calls kj30 a0 t210 t211 t212 _ A49.out).mono ?_); rintro e w54 ⟨rfl, hb⟩; refine ⟨_, rfl, ?_⟩; have n0_ := Aside0.mk (blk_below (g := gb198) (o := .cells #[.string (⟨#[]⟩ : ByteArray), .int .i64 0] 59 (0, 0)) (by (with_reducible repeat (first | refine blk_drewN ?_ _ | refine blk_drew ?_ | refine blk_alloc ?_ _)); exact BK198.out) hb); have n1_ := Aside0.mk (blk_below (g := gb202) (o := .cells #[.string x203000_30, .int .i64 x203001_30, .bool false] 69 (0, 0)) (by (with_reducible repeat (first | refine blk_drewN ?_ _ | refine blk_drew ?_ | refine blk_alloc ?_ _)); exact BK202.out) hb); have n2_ := Aside0.mk (below_step (by repeat (first | (with_reducible first | exact HB.out | apply below_alloc | apply pw_below_drewN | apply below_drew1 | refine below_set ?_ GE198.out | refine below_set ?_ GE202.out) | exact HB.out)) hb); clear BK198; clear BK202; clear HB; have BK198 := n0_; have BK202 := n1_; have HB := n2_; clear n0_ n1_ n2_; (try clear hb); (try clear hb2); (try clear hk); (try clear hi)) | ((with_reducible refine gate_dst (N := 7) rfl ?_); refine box_event ?hg (N := 7) ?hd (cs := #[.int .i32 0, .int .i64 0, .int .i64 0]) (t := 72) ?hr ?_; (case hd => rfl); (case hg => rfl); (case hr => first | (go_simp; done) | (go_simp; rfl)); intro gb213 hg w55 hbox hb; have n0_ := Aside0.mk (blk_below (g := gb198) (o := .cells #[.string (⟨#[]⟩ : ByteArray), .int .i64 0] 59 (0, 0)) (by (with_reducible repeat (first | refine blk_drewN ?_ _ | refine blk_drew ?_ | refine blk_alloc ?_ _)); exact BK198.out) hb); have n1_ := Aside0.mk (blk_below (g := gb202) (o := .cells #[.string x203000_30, .int .i64 x203001_30, .bool false] 69 (0, 0)) (by (with_reducible repeat (first | refine blk_drewN ?_ _ | refine blk_drew ?_ | refine blk_alloc ?_ _)); exact BK202.out) hb); have n2_ := Aside0.mk (below_step (by repeat (first | (with_reducible first | exact HB.out | apply below_alloc | apply pw_below_drewN | apply below_drew1 | refine below_set ?_ GE198.out | refine below_set ?_ GE202.out) | exact HB.out)) hb); have n3_ := Aside0.mk (hbox); have n4_ := Aside0.mk ((by rw [hg]; exact (below_size (by repeat (first | (with_reducible first | exact HB.out | apply below_alloc | apply pw_below_drewN | apply below_drew1 | refine below_set ?_ GE198.out | refine below_set ?_ GE202.out) | exact HB.out))) : w.heap.size ≤ gb213)); have n5_ := Aside0.mk ((by rw [hg]; exact (below_size (by repeat (first | (with_reducible first | exact HB.out | apply below_alloc | apply pw_below_drewN | apply below_drew1 | refine below_set ?_ GE198.out | refine below_set ?_ GE202.out) | exact HB.out))) : w.heap.size ≤ gb213)); have n6_ := Aside0.mk ((by rw [hg]; exact Nat.ne_of_lt (blk_lt (g := gb198) (o := .cells #[.string (⟨#[]⟩ : ByteArray), .int .i64 0] 59 (0, 0)) (by (with_reducible repeat (first | refine blk_drewN ?_ _ | refine blk_drew ?_ | refine blk_alloc ?_ _)); exact BK198.out)) : gb198 ≠ gb213)); have n7_ := Aside0.mk ((by rw [hg]; exact Nat.ne_of_gt (blk_lt (g := gb198) (o := .cells #[.string (⟨#[]⟩ : ByteArray), .int .i64 0] 59 (0, 0)) (by (with_reducible repeat (first | refine blk_drewN ?_ _ | refine blk_drew ?_ | refine blk_alloc ?_ _)); exact BK198.out)) : gb213 ≠ gb198)); have n8_ := Aside0.mk ((by rw [hg]; exact Nat.ne_of_lt (blk_lt (g := gb202) (o := .cells #[.string x203000_30, .int .i64 x203001_30, .bool false] 69 (0, 0)) (by (with_reducible repeat (first | refine blk_drewN ?_ _ | refine blk_drew ?_ | refine blk_alloc ?_ _)); exact BK202.out)) : gb202 ≠ gb213)); have n9_ := Aside0.mk ((by rw [hg]; exact Nat.ne_of_gt (blk_lt (g := gb202) (o := .cells #[.string x203000_30, .int .i64 x203001_30, .bool false] 69 (0, 0)) (by (with_reducible repeat (first | refine blk_drewN ?_ _ | refine blk_drew ?_ | refine blk_alloc ?_ _)); exact BK202.out)) : gb213 ≠ gb202)); clear BK198; clear BK202; clear HB; have BK198 := n0_; have BK202 := n1_; have HB := n2_; have BK213 := n3_; have GW213 := n4_; have GE213 := n5_; have NB198_213 := n6_; have NB213_198 := n7_; have NB202_213 := n8_; have NB213_202 := n9_; clear n0_ n1_ n2_ n3_ n4_ n5_ n6_ n7_ n8_ n9_; clear hb hbox hg; have hnb56 := NB213_198.out; have hnc56 := NB198_213.out; have hnb57 := NB213_202.out; have hnc57 := NB202_213.out; have hcz58_0 : w55.cell? ⟨gb213, 0, none⟩ = some (.int .i32 0) := (blk_cell BK213.out 0).trans rfl; have hcz58_1 : w55.cell? ⟨gb213, 1, none⟩ = some (.int .i64 0) := (blk_cell BK213.out 1).trans rfl; have hcz58_2 : w55.cell? ⟨gb213, 2, none⟩ = some (.int .i64 0) := (blk_cell BK213.out 2).trans rfl; have hfz58_0 := blk_frozen BK213.out 0; have hfz58_1 := blk_frozen BK213.out 1; have hfz58_2 := blk_frozen BK213.out 2))
                          (try simp only [Act.put, List.setIfInBounds_toArray, List.set_cons_zero, List.set_cons_succ])
                          go_cut [57] (fun v57 wc => ∃ (kq : Nat) (x57_49 : Bool), v57 = .bool x57_49 ∧ Aside0 (backseatref03_Take.j4 kq x57_49 t210 t211 t212 = some (r1, r2)) ∧ Aside0 (kq ≤ kj30) ∧ Aside0 (wc.heap[gb198]? = some (.cells #[.string (⟨#[]⟩ : ByteArray), .int .i64 0] 59 (0, 0))) ∧ Aside0 (wc.heap[gb202]? = some (.cells #[.string x203000_30, .int .i64 x203001_30, .bool false] 69 (0, 0))) ∧ Aside0 (wc.heap[gb213]? = some (.cells #[.int .i32 t210, .int .i64 t211, .int .i64 t212] 72 (0, 0))) ∧ Aside0 (Below w.heap.size w wc))
                          case first =>
                            have H := HC50.out
                            clear HC50
                            by_cases c59 : t212 = 2
                            · rw [if_pos c59] at H
                              have c59b0 : (t212 == 2) = true := beq_iff_eq.mpr c59
                              have c59b1 : (t212 != 2) = false := bne_eq_false_iff_eq.mpr c59
                              clear c59
                              (first | rw [c59b0] | (simp only [i64_w, i32_w]; rw [c59b0]) | skip)
                              have H' := Aside0.mk H
                              clear H
                              have hnb60 := NB213_198.out
                              have hnc60 := NB198_213.out
                              have hnb61 := NB213_202.out
                              have hnc61 := NB202_213.out
                              have hcz62_0 : w55.cell? ⟨gb213, 0, none⟩ = some (.int .i32 0) := (blk_cell BK213.out 0).trans rfl
                              have hcz62_1 : w55.cell? ⟨gb213, 1, none⟩ = some (.int .i64 0) := (blk_cell BK213.out 1).trans rfl
                              have hcz62_2 : w55.cell? ⟨gb213, 2, none⟩ = some (.int .i64 0) := (blk_cell BK213.out 2).trans rfl
                              have hfz62_0 := blk_frozen BK213.out 0
                              have hfz62_1 := blk_frozen BK213.out 1
                              have hfz62_2 := blk_frozen BK213.out 2
                              go_wp2
                              go_meet
                              case rel => exact ⟨_, (!a1), (by first | rfl | (simp; done) | (simp [*]; done)), H', ⟨by have := HJ3.out; have := HJ16.out; have := HJ22.out; have := HJ30.out; first | omega | exact Nat.le_refl _⟩, ⟨by (with_reducible repeat (first | refine blk_drewN ?_ _ | refine blk_drew ?_ | refine blk_alloc ?_ _)); refine blk_far ?_ NB198_213.out _; (with_reducible repeat (first | refine blk_drewN ?_ _ | refine blk_drew ?_ | refine blk_alloc ?_ _)); refine blk_far ?_ NB198_213.out _; (with_reducible repeat (first | refine blk_drewN ?_ _ | refine blk_drew ?_ | refine blk_alloc ?_ _)); refine blk_far ?_ NB198_213.out _; (with_reducible repeat (first | refine blk_drewN ?_ _ | refine blk_drew ?_ | refine blk_alloc ?_ _)); exact BK198.out⟩, ⟨by (with_reducible repeat (first | refine blk_drewN ?_ _ | refine blk_drew ?_ | refine blk_alloc ?_ _)); refine blk_far ?_ NB202_213.out _; (with_reducible repeat (first | refine blk_drewN ?_ _ | refine blk_drew ?_ | refine blk_alloc ?_ _)); refine blk_far ?_ NB202_213.out _; (with_reducible repeat (first | refine blk_drewN ?_ _ | refine blk_drew ?_ | refine blk_alloc ?_ _)); refine blk_far ?_ NB202_213.out _; (with_reducible repeat (first | refine blk_drewN ?_ _ | refine blk_drew ?_ | refine blk_alloc ?_ _)); exact BK202.out⟩, ⟨by (with_reducible repeat (first | refine blk_drewN ?_ _ | refine blk_drew ?_ | refine blk_alloc ?_ _)); refine blk_put (cs := #[.int .i32 t210, .int .i64 t211, .int .i64 0]) ?_ 2 _ rfl; (with_reducible repeat (first | refine blk_drewN ?_ _ | refine blk_drew ?_ | refine blk_alloc ?_ _)); refine blk_put (cs := #[.int .i32 t210, .int .i64 0, .int .i64 0]) ?_ 1 _ rfl; (with_reducible repeat (first | refine blk_drewN ?_ _ | refine blk_drew ?_ | refine blk_alloc ?_ _)); refine blk_put (cs := #[.int .i32 0, .int .i64 0, .int .i64 0]) ?_ 0 _ rfl; (with_reducible repeat (first | refine blk_drewN ?_ _ | refine blk_drew ?_ | refine blk_alloc ?_ _)); exact BK213.out⟩, ⟨by repeat (first | (with_reducible first | exact HB.out | apply below_alloc | apply pw_below_drewN | apply below_drew1 | refine below_set ?_ GE198.out | refine below_set ?_ GE202.out | refine below_set ?_ GE213.out) | exact HB.out)⟩⟩
                            · rw [if_neg c59] at H
                              have c59b0 : (t212 == 2) = false := beq_eq_false_iff_ne.mpr c59
                              have c59b1 : (t212 != 2) = true := bne_iff_ne.mpr c59
                              (first | rw [c59b0] | (simp only [i64_w, i32_w]; rw [c59b0]) | skip)
                              have H' := Aside0.mk H
                              clear H
                              have hnb63 := NB213_198.out
                              have hnc63 := NB198_213.out
                              have hnb64 := NB213_202.out
                              have hnc64 := NB202_213.out
                              have hcz65_0 : w55.cell? ⟨gb213, 0, none⟩ = some (.int .i32 0) := (blk_cell BK213.out 0).trans rfl
                              have hcz65_1 : w55.cell? ⟨gb213, 1, none⟩ = some (.int .i64 0) := (blk_cell BK213.out 1).trans rfl
                              have hcz65_2 : w55.cell? ⟨gb213, 2, none⟩ = some (.int .i64 0) := (blk_cell BK213.out 2).trans rfl
                              have hfz65_0 := blk_frozen BK213.out 0
                              have hfz65_1 := blk_frozen BK213.out 1
                              have hfz65_2 := blk_frozen BK213.out 2
                              go_wp2
                              go_meet
                              case rel => exact ⟨_, (false), (by first | rfl | (simp; done) | (simp [*]; done)), H', ⟨by have := HJ3.out; have := HJ16.out; have := HJ22.out; have := HJ30.out; first | omega | exact Nat.le_refl _⟩, ⟨by (with_reducible repeat (first | refine blk_drewN ?_ _ | refine blk_drew ?_ | refine blk_alloc ?_ _)); refine blk_far ?_ NB198_213.out _; (with_reducible repeat (first | refine blk_drewN ?_ _ | refine blk_drew ?_ | refine blk_alloc ?_ _)); refine blk_far ?_ NB198_213.out _; (with_reducible repeat (first | refine blk_drewN ?_ _ | refine blk_drew ?_ | refine blk_alloc ?_ _)); refine blk_far ?_ NB198_213.out _; (with_reducible repeat (first | refine blk_drewN ?_ _ | refine blk_drew ?_ | refine blk_alloc ?_ _)); exact BK198.out⟩, ⟨by (with_reducible repeat (first | refine blk_drewN ?_ _ | refine blk_drew ?_ | refine blk_alloc ?_ _)); refine blk_far ?_ NB202_213.out _; (with_reducible repeat (first | refine blk_drewN ?_ _ | refine blk_drew ?_ | refine blk_alloc ?_ _)); refine blk_far ?_ NB202_213.out _; (with_reducible repeat (first | refine blk_drewN ?_ _ | refine blk_drew ?_ | refine blk_alloc ?_ _)); refine blk_far ?_ NB202_213.out _; (with_reducible repeat (first | refine blk_drewN ?_ _ | refine blk_drew ?_ | refine blk_alloc ?_ _)); exact BK202.out⟩, ⟨by (with_reducible repeat (first | refine blk_drewN ?_ _ | refine blk_drew ?_ | refine blk_alloc ?_ _)); refine blk_put (cs := #[.int .i32 t210, .int .i64 t211, .int .i64 0]) ?_ 2 _ rfl; (with_reducible repeat (first | refine blk_drewN ?_ _ | refine blk_drew ?_ | refine blk_alloc ?_ _)); refine blk_put (cs := #[.int .i32 t210, .int .i64 0, .int .i64 0]) ?_ 1 _ rfl; (with_reducible repeat (first | refine blk_drewN ?_ _ | refine blk_drew ?_ | refine blk_alloc ?_ _)); refine blk_put (cs := #[.int .i32 0, .int .i64 0, .int .i64 0]) ?_ 0 _ rfl; (with_reducible repeat (first | refine blk_drewN ?_ _ | refine blk_drew ?_ | refine blk_alloc ?_ _)); exact BK213.out⟩, ⟨by repeat (first | (with_reducible first | exact HB.out | apply below_alloc | apply pw_below_drewN | apply below_drew1 | refine below_set ?_ GE198.out | refine below_set ?_ GE202.out | refine below_set ?_ GE213.out) | exact HB.out)⟩⟩
                          case rest =>
                            clear HC50
                            try clear c1
                            try clear p1
                            try clear q1
                            try clear hx1
                            try clear qi1
                            try clear c2
                            try clear p2
                            try clear q2
                            try clear hx2
                            try clear qi2
                            try clear c3
                            try clear c4
                            try clear p4
                            try clear q4
                            try clear hx4
                            try clear qi4
                            try clear c5
                            try clear c6
                            try clear c8
                            try clear c10
                            try clear c11
                            try clear c13
                            try clear c13b0
                            try clear c13b1
                            try clear p14
                            try clear q14
                            try clear hx14
                            try clear qi14
                            try clear c15
                            try clear c16
                            try clear c18
                            try clear c21
                            try clear c24
                            try clear c25
                            try clear c27
                            try clear c27b0
                            try clear c27b1
                            try clear c28
                            try clear p28
                            try clear q28
                            try clear hx28
                            try clear qi28
                            try clear c29
                            try clear c30
                            try clear c32
                            try clear c35
                            try clear c37
                            try clear c38
                            try clear c41
                            try clear c41b0
                            try clear c41b1
                            try clear p42
                            try clear q42
                            try clear hx42
                            try clear qi42
                            try clear c43
                            try clear c43b0
                            try clear c43b1
                            try clear c44
                            try clear c48
                            try clear c48b0
                            try clear c48b1
                            try clear c51
                            try clear c56
                            try clear c57
                            try clear c59
                            try clear c59b0
                            try clear c59b1
                            try clear c60
                            try clear c61
                            try clear c63
                            try clear c64
                            try clear hcz12_0
                            try clear hcz12_1
                            try clear hcz12_2
                            try clear hcz16_0
                            try clear hcz16_1
                            try clear hcz16_2
                            try clear hcz22_0
                            try clear hcz22_1
                            try clear hcz22_2
                            try clear hcz26_0
                            try clear hcz26_1
                            try clear hcz26_2
                            try clear hcz30_0
                            try clear hcz30_1
                            try clear hcz30_2
                            try clear hcz36_0
                            try clear hcz36_1
                            try clear hcz36_2
                            try clear hcz39_0
                            try clear hcz39_1
                            try clear hcz39_2
                            try clear hcz40_0
                            try clear hcz40_1
                            try clear hcz45_0
                            try clear hcz45_1
                            try clear hcz45_2
                            try clear hcz46_0
                            try clear hcz46_1
                            try clear hcz52_0
                            try clear hcz52_1
                            try clear hcz52_2
                            try clear hcz58_0
                            try clear hcz58_1
                            try clear hcz58_2
                            try clear hcz62_0
                            try clear hcz62_1
                            try clear hcz62_2
                            try clear hcz65_0
                            try clear hcz65_1
                            try clear hcz65_2
                            try clear hcz9_0
                            try clear hcz9_1
                            try clear hcz9_2
                            try clear hfz12_0
                            try clear hfz12_1
                            try clear hfz12_2
                            try clear hfz16_0
                            try clear hfz16_1
                            try clear hfz16_2
                            try clear hfz22_0
                            try clear hfz22_1
                            try clear hfz22_2
                            try clear hfz26_0
                            try clear hfz26_1
                            try clear hfz26_2
                            try clear hfz30_0
                            try clear hfz30_1
                            try clear hfz30_2
                            try clear hfz36_0
                            try clear hfz36_1
                            try clear hfz36_2
                            try clear hfz39_0
                            try clear hfz39_1
                            try clear hfz39_2
                            try clear hfz40_0
                            try clear hfz40_1
                            try clear hfz45_0
                            try clear hfz45_1
                            try clear hfz45_2
                            try clear hfz46_0
                            try clear hfz46_1
                            try clear hfz52_0
                            try clear hfz52_1
                            try clear hfz52_2
                            try clear hfz58_0
                            try clear hfz58_1
                            try clear hfz58_2
                            try clear hfz62_0
                            try clear hfz62_1
                            try clear hfz62_2
                            try clear hfz65_0
                            try clear hfz65_1
                            try clear hfz65_2
                            try clear hfz9_0
                            try clear hfz9_1
                            try clear hfz9_2
                            try clear p1
                            try clear p14
                            try clear p2
                            try clear p28
                            try clear p42
                            try clear q1
                            try clear q14
                            try clear q2
                            try clear q28
                            try clear q42
                            obtain ⟨kq, x57_49, rfl, HA, HJ49, BK198, BK202, BK213, HB⟩ := hcut
                            cases kq with
                            | zero => exact absurd HA.out (by simp [backseatref03_Take.j4])
                            | succ kj49 =>
                              have H := HA.out
                              clear HA
                              simp only [backseatref03_Take.j4] at H
                              by_cases c66 : x57_49 = true
                              · subst c66
                                have H1 : (some ((⟨#[]⟩ : ByteArray), 0)) = some (r1, r2) := by rw [if_pos rfl] at H; exact H
                                clear H
                                have H := H1
                                clear H1
                                simp only [Option.some.injEq, Prod.mk.injEq] at H
                                obtain ⟨rfl, rfl⟩ := H
                                have hnb67 := NB198_202.out
                                have hnc67 := NB202_198.out
                                have hnb68 := NB198_213.out
                                have hnc68 := NB213_198.out
                                have hcz69_0 : wc.cell? ⟨gb198, 0, none⟩ = some (.string (⟨#[]⟩ : ByteArray)) := (blk_cell BK198.out 0).trans rfl
                                have hcz69_1 : wc.cell? ⟨gb198, 1, none⟩ = some (.int .i64 0) := (blk_cell BK198.out 1).trans rfl
                                have hfz69_0 := blk_frozen BK198.out 0
                                have hfz69_1 := blk_frozen BK198.out 1
                                go_wp2
                                refine bodyPost_ret (results_cell_row rfl _ _ gb198 59 #[.string (⟨#[]⟩ : ByteArray), .int .i64 0] (0, 0) _ rfl (by (with_reducible repeat (first | refine blk_drewN ?_ _ | refine blk_drew ?_ | refine blk_alloc ?_ _)); refine blk_put (cs := #[.string (⟨#[]⟩ : ByteArray), .int .i64 0]) ?_ 1 _ rfl; (with_reducible repeat (first | refine blk_drewN ?_ _ | refine blk_drew ?_ | refine blk_alloc ?_ _)); refine blk_put (cs := #[.string (⟨#[]⟩ : ByteArray), .int .i64 0]) ?_ 0 _ rfl; (with_reducible repeat (first | refine blk_drewN ?_ _ | refine blk_drew ?_ | refine blk_alloc ?_ _)); exact BK198.out) Tryd.underlying59 rfl (by kernel_rfl)) rfl ?_
                                exact ⟨by first | rfl | (simp [errW_none, errW_some] <;> rfl) | (simp [*, errW_none, errW_some] <;> rfl), by repeat (first | (with_reducible first | exact HB.out | apply below_alloc | apply pw_below_drewN | apply below_drew1 | refine below_set ?_ GE198.out | refine below_set ?_ GE202.out | refine below_set ?_ GE213.out) | exact HB.out)⟩
                              · replace c66 := Bool.eq_false_iff.mpr c66
                                subst c66
                                have H1 : (if t212 = 2 then (some ((⟨#[63]⟩ : ByteArray), 1)) else (some ((⟨#[63]⟩ : ByteArray), t211))) = some (r1, r2) := by rw [if_neg (show ¬ (false = true) by decide)] at H; exact H
                                clear H
                                have H := H1
                                clear H1
                                by_cases c70 : t212 = 2
                                · rw [if_pos c70] at H
                                  have c70b0 : (t212 == 2) = true := beq_iff_eq.mpr c70
                                  have c70b1 : (t212 != 2) = false := bne_eq_false_iff_eq.mpr c70
                                  clear c70
                                  simp only [Option.some.injEq, Prod.mk.injEq] at H
                                  obtain ⟨rfl, rfl⟩ := H
                                  have hnb71 := NB213_198.out
                                  have hnc71 := NB198_213.out
                                  have hnb72 := NB213_202.out
                                  have hnc72 := NB202_213.out
                                  have hcz73_0 : wc.cell? ⟨gb213, 0, none⟩ = some (.int .i32 t210) := (blk_cell BK213.out 0).trans rfl
                                  have hcz73_1 : wc.cell? ⟨gb213, 1, none⟩ = some (.int .i64 t211) := (blk_cell BK213.out 1).trans rfl
                                  have hcz73_2 : wc.cell? ⟨gb213, 2, none⟩ = some (.int .i64 t212) := (blk_cell BK213.out 2).trans rfl
                                  have hfz73_0 := blk_frozen BK213.out 0
                                  have hfz73_1 := blk_frozen BK213.out 1
                                  have hfz73_2 := blk_frozen BK213.out 2
                                  have hnb74 := NB198_202.out
                                  have hnc74 := NB202_198.out
                                  have hcz75_0 : wc.cell? ⟨gb198, 0, none⟩ = some (.string (⟨#[]⟩ : ByteArray)) := (blk_cell BK198.out 0).trans rfl
                                  have hcz75_1 : wc.cell? ⟨gb198, 1, none⟩ = some (.int .i64 0) := (blk_cell BK198.out 1).trans rfl
                                  have hfz75_0 := blk_frozen BK198.out 0
                                  have hfz75_1 := blk_frozen BK198.out 1
                                  go_wp2
                                  refine bodyPost_ret (results_cell_row rfl _ _ gb198 59 #[.string (⟨#[63]⟩ : ByteArray), .int .i64 1] (0, 0) _ rfl (by (with_reducible repeat (first | refine blk_drewN ?_ _ | refine blk_drew ?_ | refine blk_alloc ?_ _)); refine blk_put (cs := #[.string (⟨#[63]⟩ : ByteArray), .int .i64 0]) ?_ 1 _ rfl; (with_reducible repeat (first | refine blk_drewN ?_ _ | refine blk_drew ?_ | refine blk_alloc ?_ _)); refine blk_put (cs := #[.string (⟨#[]⟩ : ByteArray), .int .i64 0]) ?_ 0 _ rfl; (with_reducible repeat (first | refine blk_drewN ?_ _ | refine blk_drew ?_ | refine blk_alloc ?_ _)); exact BK198.out) Tryd.underlying59 rfl (by kernel_rfl)) rfl ?_
                                  exact ⟨by first | rfl | (simp [errW_none, errW_some] <;> rfl) | (simp [*, errW_none, errW_some] <;> rfl), by repeat (first | (with_reducible first | exact HB.out | apply below_alloc | apply pw_below_drewN | apply below_drew1 | refine below_set ?_ GE198.out | refine below_set ?_ GE202.out | refine below_set ?_ GE213.out) | exact HB.out)⟩
                                · rw [if_neg c70] at H
                                  have c70b0 : (t212 == 2) = false := beq_eq_false_iff_ne.mpr c70
                                  have c70b1 : (t212 != 2) = true := bne_iff_ne.mpr c70
                                  simp only [Option.some.injEq, Prod.mk.injEq] at H
                                  obtain ⟨rfl, rfl⟩ := H
                                  have hnb76 := NB213_198.out
                                  have hnc76 := NB198_213.out
                                  have hnb77 := NB213_202.out
                                  have hnc77 := NB202_213.out
                                  have hcz78_0 : wc.cell? ⟨gb213, 0, none⟩ = some (.int .i32 t210) := (blk_cell BK213.out 0).trans rfl
                                  have hcz78_1 : wc.cell? ⟨gb213, 1, none⟩ = some (.int .i64 t211) := (blk_cell BK213.out 1).trans rfl
                                  have hcz78_2 : wc.cell? ⟨gb213, 2, none⟩ = some (.int .i64 t212) := (blk_cell BK213.out 2).trans rfl
                                  have hfz78_0 := blk_frozen BK213.out 0
                                  have hfz78_1 := blk_frozen BK213.out 1
                                  have hfz78_2 := blk_frozen BK213.out 2
                                  have hnb79 := NB198_202.out
                                  have hnc79 := NB202_198.out
                                  have hcz80_0 : wc.cell? ⟨gb198, 0, none⟩ = some (.string (⟨#[]⟩ : ByteArray)) := (blk_cell BK198.out 0).trans rfl
                                  have hcz80_1 : wc.cell? ⟨gb198, 1, none⟩ = some (.int .i64 0) := (blk_cell BK198.out 1).trans rfl
                                  have hfz80_0 := blk_frozen BK198.out 0
                                  have hfz80_1 := blk_frozen BK198.out 1
                                  go_wp2
                                  refine bodyPost_ret (results_cell_row rfl _ _ gb198 59 #[.string (⟨#[63]⟩ : ByteArray), .int .i64 t211] (0, 0) _ rfl (by (with_reducible repeat (first | refine blk_drewN ?_ _ | refine blk_drew ?_ | refine blk_alloc ?_ _)); refine blk_put (cs := #[.string (⟨#[63]⟩ : ByteArray), .int .i64 0]) ?_ 1 _ rfl; (with_reducible repeat (first | refine blk_drewN ?_ _ | refine blk_drew ?_ | refine blk_alloc ?_ _)); refine blk_put (cs := #[.string (⟨#[]⟩ : ByteArray), .int .i64 0]) ?_ 0 _ rfl; (with_reducible repeat (first | refine blk_drewN ?_ _ | refine blk_drew ?_ | refine blk_alloc ?_ _)); exact BK198.out) Tryd.underlying59 rfl (by kernel_rfl)) rfl ?_
                                  exact ⟨by first | rfl | (simp [errW_none, errW_some] <;> rfl) | (simp [*, errW_none, errW_some] <;> rfl), by repeat (first | (with_reducible first | exact HB.out | apply below_alloc | apply pw_below_drewN | apply below_drew1 | refine below_set ?_ GE198.out | refine below_set ?_ GE202.out | refine below_set ?_ GE213.out) | exact HB.out)⟩
                        · rw [if_neg c48] at H
                          have c48b0 : (t209.toList == ([] : List UInt8)) = false := beq_eq_false_iff_ne.mpr c48
                          have c48b1 : (t209.toList != ([] : List UInt8)) = true := bne_iff_ne.mpr c48
                          simp only [Option.some.injEq, Prod.mk.injEq] at H
                          obtain ⟨rfl, rfl⟩ := H
                          have hnb81 := NB202_198.out
                          have hnc81 := NB198_202.out
                          have hcz82_0 : wc.cell? ⟨gb202, 0, none⟩ = some (.string x203000_30) := (blk_cell BK202.out 0).trans rfl
                          have hcz82_1 : wc.cell? ⟨gb202, 1, none⟩ = some (.int .i64 x203001_30) := (blk_cell BK202.out 1).trans rfl
                          have hcz82_2 : wc.cell? ⟨gb202, 2, none⟩ = some (.bool false) := (blk_cell BK202.out 2).trans rfl
                          have hfz82_0 := blk_frozen BK202.out 0
                          have hfz82_1 := blk_frozen BK202.out 1
                          have hfz82_2 := blk_frozen BK202.out 2
                          have p42 : 0 ≤ (0 : Int) := (by omega)
                          have q42 : 0 < a0.size := (by have : (0 : Int) < (a0.size : Int) := of_decide_eq_true (by first | (with_reducible assumption) | assumption); omega)
                          have hx42 : ∀ h : 0 < a0.size, ((a0[0]'h).toNat : Int) = bt a0 0 := bt_at a0 0
                          clear p42
                          have qi42 : (0 < (a0.size : Int)) = True := eq_true (of_decide_eq_true (by first | (with_reducible assumption) | assumption))
                          replace q42 := eq_true q42
                          go_wp2_with (first | ((with_reducible refine gate_callee (f := 18) rfl ?_); refine goesL_ (some 42) rfl rfl Tryd.func18 (by kernel_rfl) rfl #[.string a0] rfl (by (try simp only [List.map_toArray, List.map_cons, List.map_nil]); first | done | rfl | (simp only [List.length_drop, List.length_take]; rfl)) ?_; (with_reducible refine (backseatref03_Letter.calls kj30 a0 t209 _ A47.out).mono ?_); rintro e w83 ⟨rfl, hb⟩; refine ⟨_, rfl, ?_⟩; have n0_ := Aside0.mk (blk_below (g := gb198) (o := .cells #[.string (⟨#[]⟩ : ByteArray), .int .i64 0] 59 (0, 0)) (by (with_reducible repeat (first | refine blk_drewN ?_ _ | refine blk_drew ?_ | refine blk_alloc ?_ _)); exact BK198.out) hb); have n1_ := Aside0.mk (blk_below (g := gb202) (o := .cells #[.string x203000_30, .int .i64 x203001_30, .bool false] 69 (0, 0)) (by (with_reducible repeat (first | refine blk_drewN ?_ _ | refine blk_drew ?_ | refine blk_alloc ?_ _)); exact BK202.out) hb); have n2_ := Aside0.mk (below_step (by repeat (first | (with_reducible first | exact HB.out | apply below_alloc | apply pw_below_drewN | apply below_drew1 | refine below_set ?_ GE198.out | refine below_set ?_ GE202.out) | exact HB.out)) hb); clear BK198; clear BK202; clear HB; have BK198 := n0_; have BK202 := n1_; have HB := n2_; clear n0_ n1_ n2_; (try clear hb); (try clear hb2); (try clear hk); (try clear hi); have hcz84_0 : w83.cell? ⟨gb198, 0, none⟩ = some (.string (⟨#[]⟩ : ByteArray)) := (blk_cell BK198.out 0).trans rfl; have hcz84_1 : w83.cell? ⟨gb198, 1, none⟩ = some (.int .i64 0) := (blk_cell BK198.out 1).trans rfl; have hfz84_0 := blk_frozen BK198.out 0; have hfz84_1 := blk_frozen BK198.out 1))
                          refine bodyPost_ret (results_cell_row rfl _ _ gb198 59 #[.string t209, .int .i64 (t209.size : Int)] (0, 0) _ rfl (by (with_reducible repeat (first | refine blk_drewN ?_ _ | refine blk_drew ?_ | refine blk_alloc ?_ _)); refine blk_put (cs := #[.string t209, .int .i64 0]) ?_ 1 _ rfl; (with_reducible repeat (first | refine blk_drewN ?_ _ | refine blk_drew ?_ | refine blk_alloc ?_ _)); refine blk_put (cs := #[.string (⟨#[]⟩ : ByteArray), .int .i64 0]) ?_ 0 _ rfl; (with_reducible repeat (first | refine blk_drewN ?_ _ | refine blk_drew ?_ | refine blk_alloc ?_ _)); exact BK198.out) Tryd.underlying59 rfl (by kernel_rfl)) rfl ?_
                          exact ⟨by first | rfl | (simp [errW_none, errW_some] <;> rfl) | (simp [*, errW_none, errW_some] <;> rfl), by repeat (first | (with_reducible first | exact HB.out | apply below_alloc | apply pw_below_drewN | apply below_drew1 | refine below_set ?_ GE198.out | refine below_set ?_ GE202.out) | exact HB.out)⟩
                    · rw [if_neg c41] at H
                      exact absurd H (by simp)
end Go.Proofs.YtbnpcnpdeinacaaDoor.P
