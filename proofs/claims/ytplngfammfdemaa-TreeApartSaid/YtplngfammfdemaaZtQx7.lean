-- Copies of the texts YtplngfammfdemaaQx6, YtplngfammfdemaaQx7 with what this claim does not reach left out (prune.py, a program of this project).
import Derived.Test.YtplngfammfdemaaZtGMul
import Derived.Test.YtplngfammfdemaaZtQx5
import Derived.Test.YtplngfammfdemaaZtGEachC
import Derived.Test.YtplngfammfdemaaZtQx14
section
namespace Go.Proofs.Ytplngfammfdemaa.Q
open Go.RowKit Go.Proofs.Ytplngfammfdemaa Go.Proofs.YtplngfammfdemaaW.PrintWords Go.Proofs.YtplngfammfdemaaW.PrintLast Go.Proofs.YtplngfammfdemaaW.PrintMore
attribute [local go_sem] max2_int min2_int max_two min_two max_three min_three max_four min_four   -- for this text's walks alone
set_option linter.unusedVariables false
set_option linter.unusedSimpArgs false
def preset_size_row.f (k : Nat) (a0_0 : Int) (a0_1 : Int) (l1 : List Int) : Option (Int × Int × Int × (List (S31)) × Bool) := (preset_each.f l1).bind fun t164 => ((preset_sharedPane.f k a0_0 a0_1 1 t164 91).bind fun bt167 => (some (bt167.1, bt167.2.1, bt167.2.2.1, bt167.2.2.2.1, bt167.2.2.2.2)))
theorem preset_size_row.mono : ∀ a0 a1 a2 k, LeO (preset_size_row.f k a0 a1 a2) (preset_size_row.f (k + 1) a0 a1 a2) := by
 intro a0 a1 a2 k
 unfold preset_size_row.f
 repeat' first
  | (with_reducible exact preset_sharedPane.mono _ _ _ _ _ _)
  | (with_reducible exact LeO.refl _)
  | (with_reducible exact LeO.none _)
  | (with_reducible refine LeO.ite ?_ ?_)
  | (with_reducible refine LeO.bind ?_ (fun _ => ?_))
  | exact preset_sharedPane.mono _ _ _ _ _ _
  | exact LeO.none _
  | refine LeO.ite ?_ ?_
  | refine LeO.bind ?_ (fun _ => ?_)
def preset_size_row.T1 : Bool × List (List Nat × List Nat) := (true, [([], []), ([], []), ([1], [1]), ([0, 2, 2], [0, 2]), ([3], [3]), ([3], [3]), ([4, 3, 0, 1, 2, 3, 4, 5], [4]), ([5, 6, 0, 1, 2, 3, 4, 5, 6], [5])])
def preset_size_row.B1 : List Nat := [0, 0, 2, 7, 15, 15, 63, 127]
theorem preset_size_row.tab1 : rtab .any (opsOf Try.f46 1) = preset_size_row.T1 := by kernel_rfl
theorem preset_size_row.bits1 : waitsOk preset_size_row.T1.2 preset_size_row.B1 = true := by kernel_rfl
set_option maxHeartbeats 8000000 in
set_option maxRecDepth 100000 in
theorem preset_size_row.calls (k : Nat) (a0_0 : Int) (a0_1 : Int) (A1 : Option Addr) (c1 : Nat) (l1 : List Int) (r1 : Int) (r2 : Int) (r3 : Int) (r4 : List (S31)) (r5 : Bool) (w : World) (hr1 : Kd.C (Kd.int .i64) w A1 l1.length l1) (hc1 : l1.length ≤ c1) (h : preset_size_row.f k a0_0 a0_1 l1 = some (r1, r2, r3, r4, r5)) :
 Calls Try.prog 46 #[.agg #[.int .i64 a0_0, .int .i64 a0_1], .slice A1 l1.length c1] w fun e w' => ∃ v3_ : Value, e = .returned (.tuple #[.agg #[.int .i64 r1, .int .i64 r2, .int .i64 r3, v3_], .bool r5]) ∧ Kd.R k31 31 w' w.heap.size (fun _ => True) v3_ r4 ∧ Below w.heap.size w w' := by
 have hu83 := Try.underlying83
 have hu31 := Try.underlying31
 have HR1 := zM hr1
 have HC1 := zM hc1
 clear hr1 hc1
 have HB := zM (Below.refl w.heap.size w)
 have H : ((preset_each.f l1).bind fun t164 => ((preset_sharedPane.f k a0_0 a0_1 1 t164 91).bind fun bt167 => (some (bt167.1, bt167.2.1, bt167.2.2.1, bt167.2.2.2.1, bt167.2.2.2.2)))) = some (r1, r2, r3, r4, r5) := h
 clear h
 replace H := Option.bind_eq_some_iff.mp H
 obtain ⟨t164, A30, H⟩ := H
 replace H : ((preset_sharedPane.f k a0_0 a0_1 1 t164 91).bind fun bt167 => (some (bt167.1, bt167.2.1, bt167.2.2.1, bt167.2.2.2.1, bt167.2.2.2.2))) = some (r1, r2, r3, r4, r5) := H
 have A3 := zM A30
 clear A30
 replace H := Option.bind_eq_some_iff.mp H
 obtain ⟨⟨t167, t168, t169, t170, t173⟩, A40, H⟩ := H
 replace H : (some (t167, t168, t169, t170, t173)) = some (r1, r2, r3, r4, r5) := H
 have A4 := zM A40
 clear A40
 simp only [Option.some.injEq, Prod.mk.injEq] at H
 obtain ⟨rfl, rfl, rfl, rfl, rfl⟩ := H
 go_enter Try.func46, Try.ntmps46
 try go_wp2_with (first | ((with_reducible refine gate_dst (N := 2) rfl ?_); refine box_event ?hg (N := 2) ?hd (cs := #[.int .i64 a0_0, .int .i64 a0_1]) (t := 83) ?hr ?_; (case hd => rfl); (case hg => rfl); (case hr => first | (go_simp; done) | (go_simp; rfl)); intro gb162 hg w5 hbox hb; have BK162 := zM (hbox); have GW162 := zM ((by rw [hg]; exact (below_size (by first | exact HB.out | exact zN HB.out _ | exact zD HB.out)) : w.heap.size ≤ gb162)); have GE162 := GW162; replace HB := zM (below_step (by first | exact HB.out | exact zN HB.out _ | exact zD HB.out) hb); clear hb hbox hg) | ((with_reducible refine gate_dst (N := 4) rfl ?_); refine box_event ?hg (N := 4) ?hd (cs := #[.int .i64 0, .int .i64 0, .int .i64 0, .slice none 0 0]) (t := 31) ?hr ?_; (case hd => rfl); (case hg => rfl); (case hr => first | (go_simp; done) | (go_simp; rfl)); intro gb163 hg w6 hbox hb; have BK163 := zM (hbox); have GW163 := zM ((by rw [hg]; exact (below_size (by repeat first | refine zS ?_ GE162.out | exact HB.out | apply zA | apply zN | apply zD)) : w.heap.size ≤ gb163)); have GE163 := GW163; have NB162_163 := zM ((by rw [hg]; exact lt1 BK162.out : gb162 ≠ gb163)); have NB163_162 := zM ((by rw [hg]; exact gt1 BK162.out : gb163 ≠ gb162)); replace BK162 := zM (bb hb BK162.out); replace HB := zM (below_step (by repeat first | refine zS ?_ GE162.out | exact HB.out | apply zA | apply zN | apply zD) hb); clear hb hbox hg))
 replace BK162 := zM (blk_drew BK162.out); replace BK163 := zM (blk_drew BK163.out); replace HB := zM (zD HB.out)
 refine start_ (n := 8) (S := fun w' => w'.cell? ⟨gb162, 0, none⟩ = some (.int .i64 a0_0) ∧ w'.cell? ⟨gb162, 1, none⟩ = some (.int .i64 a0_1)) (ds := []) #[false, false, false, false, false, false, false, false] (by kernel_rfl) rfl rfl ⟨(blk_cell BK162.out 0).trans rfl, (blk_cell BK162.out 1).trans rfl⟩ (fun hHeld => ?_); refine with_tabW preset_size_row.tab1 preset_size_row.bits1 (fun HT_ HW_ => ?_)
 generalize w6.drew = w7 at BK162 BK163 HB hHeld ⊢
 refine pv (v := ?_) (a' := ?_) HT_.out 1 (some 7) #[false, true, false, false, false, false, false, false] ?_ ?_ ?_; rotate_left 2; (·intro w'; go_simp; with_reducible rfl); (·simp only [Act.put, s1, s2, s3, i64_w, i32_w]; rfl)
 refine take_ (i := 0) (N := some 6) (v := ?_) (a' := ?_) #[true, true, false, false, false, false, false, false] rfl rfl (take_ofW HT_.out HW_.out (by kernel_rfl)) (fun _ _ _ h => h) (Or.inl ⟨by rfl, ?_⟩) hHeld ?_ ?_; rotate_left; (·rintro w' ⟨s0, s1⟩; go_simp; with_reducible rfl); rotate_left; (·simp only [Act.put, s1, s2, s3, i64_w, i32_w]; rfl)
 refine one_ (i := 2) (N := some 8) #[true, true, true, false, false, false, false, false] rfl rfl (one_of HT_.out (by kernel_rfl)) (by decide) (fun K hK => ?_)
 refine goes_ Try.func90 (by kernel_rfl) rfl #[.slice A1 l1.length c1] (by rfl) rfl rfl (by (try simp only [List.map_toArray, List.map_cons, List.map_nil]); first | done | rfl | (simp only [List.length_drop, List.length_take]; rfl)) ?_
 with_reducible refine (preset_each.calls _ _ l1 t164 _ ?side1 ?side2 A3.out).mono ?_
 (case side1 => repeat (first | exact (Kd.C_below HR1.out HB.out) | (with_reducible refine Kd.C_alloc ?_ _) | (with_reducible refine Kd.C_drewN ?_ _) | (with_reducible refine Kd.C_drew ?_)))
 (case side2 => exact HC1.out)
 rintro e w8 ⟨v165, rfl, ho0, hb⟩
 refine ⟨_, rfl, ?_⟩
 have HO166 := zM ho0; replace BK162 := zM (bb hb BK162.out); replace BK163 := zM (bb hb BK163.out); replace HB := zM (below_step (by repeat first | refine zS ?_ GE162.out | refine zS ?_ GE163.out | exact HB.out | apply zA | apply zN | apply zD) hb)
 (try clear hb)
 (try clear hb2)
 (try clear hk)
 (try clear hi)
 (try clear ho0)
 obtain ⟨Ao9, co9, eo9⟩ := ShS.value HO166.out
 (first | subst eo9 | (injection eo9 with f1_ f2_ f3_; have f4_ := f1_.symm; have f5_ := f3_.symm; clear f1_ f2_ f3_; subst f4_; subst f5_))
 refine hK.out _ _ ⟨(blk_cell BK162.out 0).trans rfl, (blk_cell BK162.out 1).trans rfl⟩ (fun hHeld => ?_)
 clear hK K
 refine norm_ (a' := ?_) ?_ ?_
 rotate_left
 ·show Act.put _ (some 8) _ = _
  simp only [Act.put, s1, s2, s3, i64_w, i32_w]
  rfl
 refine one_ (i := 3) (N := some 9) #[true, true, true, true, false, false, false, false] rfl rfl (one_of HT_.out (by kernel_rfl)) (by decide) (fun K hK => ?_)
 refine goes_ Try.func89 (by kernel_rfl) rfl #[.agg #[.int .i64 a0_0, .int .i64 a0_1], .int .i64 1, .slice Ao9 t164.length co9, .func (.func 91) #[] #[]] (by rfl) rfl rfl (by (try simp only [List.map_toArray, List.map_cons, List.map_nil]); first | done | rfl | (simp only [List.length_drop, List.length_take]; rfl)) ?_
 with_reducible refine (preset_sharedPane.calls k a0_0 a0_1 1 _ _ t164 91 t167 t168 t169 t170 t173 _ ?side1 ?side2 A4.out).mono ?_
 (case side1 => repeat (first | exact (ShS.reads HO166.out).2.2 | (with_reducible refine Kd.C_alloc ?_ _) | (with_reducible refine Kd.C_drewN ?_ _) | (with_reducible refine Kd.C_drew ?_)))
 (case side2 => exact (ShS.reads HO166.out).2.1)
 rintro e w10 ⟨v171, rfl, ho0, hb⟩
 refine ⟨_, rfl, ?_⟩
 have HO172 := zM (Kd.R_lower (Kd.R_newB ho0 (g := gb163) (o := .cells #[.int .i64 0, .int .i64 0, .int .i64 0, .slice none 0 0] 31 (0, 0)) (by (with_reducible repeat (first | refine blk_drewN ?_ _ | refine blk_drew ?_ | refine blk_alloc ?_ _)); exact BK163.out)) (below_size (by repeat first | refine zS ?_ GE162.out | refine zS ?_ GE163.out | exact HB.out | apply zA | apply zN | apply zD))); replace HO166 := zM (ShS.below HO166.out hb); replace BK162 := zM (bb hb BK162.out); replace BK163 := zM (bb hb BK163.out); replace HB := zM (below_step (by repeat first | refine zS ?_ GE162.out | refine zS ?_ GE163.out | exact HB.out | apply zA | apply zN | apply zD) hb)
 (try clear hb)
 (try clear hb2)
 (try clear hk)
 (try clear hi)
 (try clear ho0)
 obtain ⟨Ao14, co14, eo14⟩ := Kd.R_slice HO172.out
 (first | subst eo14 | (injection eo14 with f1_ f2_ f3_; have f4_ := f1_.symm; have f5_ := f3_.symm; clear f1_ f2_ f3_; subst f4_; subst f5_))
 refine hK.out _ _ ⟨(blk_cell BK162.out 0).trans rfl, (blk_cell BK162.out 1).trans rfl⟩ (fun hHeld => ?_)
 clear hK K
 refine norm_ (a' := ?_) ?_ ?_
 rotate_left
 ·show Act.put _ (some 9) _ = _
  simp only [Act.put, s1, s2, s3, i64_w, i32_w]
  rfl
 refine pv (v := ?_) (a' := ?_) HT_.out 4 (some 10) #[true, true, true, true, true, false, false, false] ?_ ?_ ?_; rotate_left 2; (·intro w'; go_simp; with_reducible rfl); (·simp only [Act.put, s1, s2, s3, i64_w, i32_w]; rfl)
 refine pv (v := ?_) (a' := ?_) HT_.out 5 (some 11) #[true, true, true, true, true, true, false, false] ?_ ?_ ?_; rotate_left 2; (·intro w'; go_simp; with_reducible rfl); (·simp only [Act.put, s1, s2, s3, i64_w, i32_w]; rfl)
 refine one_ (i := 6) (N := none) #[true, true, true, true, true, true, true, false] rfl rfl (one_of HT_.out (by kernel_rfl)) (by decide) (fun K hK => ?_)
 have hs11 : w10.cell? ⟨gb163, 0, none⟩ = some (.int .i64 0) := (blk_cell BK163.out 0).trans rfl
 have hfs11 := blk_frozen BK163.out 0
 have hns11_0 := NB162_163.out
 have hms11_0 := NB163_162.out
 have hs12 : w10.cell? ⟨gb163, 1, none⟩ = some (.int .i64 0) := (blk_cell BK163.out 1).trans rfl
 have hfs12 := blk_frozen BK163.out 1
 have hns12_0 := NB162_163.out
 have hms12_0 := NB163_162.out
 have hs13 : w10.cell? ⟨gb163, 2, none⟩ = some (.int .i64 0) := (blk_cell BK163.out 2).trans rfl
 have hfs13 := blk_frozen BK163.out 2
 have hns13_0 := NB162_163.out
 have hms13_0 := NB163_162.out
 have hs15 : w10.cell? ⟨gb163, 3, none⟩ = some (.slice none 0 0) := (blk_cell BK163.out 3).trans rfl
 have hfs15 := blk_frozen BK163.out 3
 have hns15_0 := NB162_163.out
 have hms15_0 := NB163_162.out
 refine skip_ (w1 := ?_) (by rfl) rfl ?_ ?_
 rotate_left
 ·go_simp
  rfl
 refine hK.out _ _ ⟨((cell_far (p := ⟨gb163, _, none⟩) NB162_163.out _).trans (((cell_far (p := ⟨gb163, _, none⟩) NB162_163.out _).trans (((cell_far (p := ⟨gb163, _, none⟩) NB162_163.out _).trans (((cell_far (p := ⟨gb163, _, none⟩) NB162_163.out _).trans (hHeld.1)))))))), ((cell_far (p := ⟨gb163, _, none⟩) NB162_163.out _).trans (((cell_far (p := ⟨gb163, _, none⟩) NB162_163.out _).trans (((cell_far (p := ⟨gb163, _, none⟩) NB162_163.out _).trans (((cell_far (p := ⟨gb163, _, none⟩) NB162_163.out _).trans (hHeld.2))))))))⟩ (fun hHeld => ?_)
 clear hK K
 refine pv (v := ?_) (a' := ?_) HT_.out 7 (some 5) #[true, true, true, true, true, true, true, true] ?_ ?_ ?_; rotate_left 2; (·intro w'; go_simp; with_reducible rfl); (·simp only [Act.put, s1, s2, s3, i64_w, i32_w]; rfl)
 refine done_ (done_of HT_.out (by kernel_rfl)) ?_
 try go_wp2
 refine bodyPost_ret (results_ct rfl _ _ gb163 31 #[.int .i64 t167, .int .i64 t168, .int .i64 t169, .slice Ao14 t170.length co14] (0, 0) _ rfl (by exact (put4 BK163.out)) Try.underlying31 rfl (by kernel_rfl)) rfl ?_
 exact ⟨_, by first | rfl | (simp [errW_none, errW_some] <;> rfl) | (simp [*, errW_none, errW_some] <;> rfl), by (with_reducible repeat (first | apply Kd.R_alloc | apply Kd.R_drewN | apply Kd.R_drew)); exact Kd.R_mono (Kd.R_far (p := ⟨gb163, 3, none⟩) (Kd.R_far (p := ⟨gb163, 2, none⟩) (Kd.R_far (p := ⟨gb163, 1, none⟩) (Kd.R_far (p := ⟨gb163, 0, none⟩) (Kd.R_mono HO172.out (fun k_ hk => (⟨hk, hk.2⟩ : _ ∧ k_ ≠ gb163))) (fun _ hk => hk.2) (.int .i64 t167)) (fun _ hk => hk.2) (.int .i64 t168)) (fun _ hk => hk.2) (.int .i64 t169)) (fun _ hk => hk.2) (.slice Ao14 t170.length co14)) (fun _ hk => trivial), by repeat first | refine zS ?_ GE162.out | refine zS ?_ GE163.out | exact HB.out | apply zA | apply zN | apply zD⟩
end Go.Proofs.Ytplngfammfdemaa.Q
end
section
namespace Go.Proofs.Ytplngfammfdemaa.Q
open Go.RowKit Go.Proofs.Ytplngfammfdemaa Go.Proofs.YtplngfammfdemaaW.PrintWords Go.Proofs.YtplngfammfdemaaW.PrintLast Go.Proofs.YtplngfammfdemaaW.PrintMore
attribute [local go_sem] max2_int min2_int max_two min_two max_three min_three max_four min_four   -- for this text's walks alone
set_option linter.unusedVariables false
set_option linter.unusedSimpArgs false
def preset_size_pile.f (k : Nat) (a0_0 : Int) (a0_1 : Int) (l1 : List Int) : Option (Int × Int × Int × (List (S31)) × Bool) := (preset_each.f l1).bind fun t176 => ((preset_sharedPane.f k a0_0 a0_1 2 t176 91).bind fun bt179 => (some (bt179.1, bt179.2.1, bt179.2.2.1, bt179.2.2.2.1, bt179.2.2.2.2)))
theorem preset_size_pile.mono : ∀ a0 a1 a2 k, LeO (preset_size_pile.f k a0 a1 a2) (preset_size_pile.f (k + 1) a0 a1 a2) := by
 intro a0 a1 a2 k
 unfold preset_size_pile.f
 repeat' first
  | (with_reducible exact preset_sharedPane.mono _ _ _ _ _ _)
  | (with_reducible exact LeO.refl _)
  | (with_reducible exact LeO.none _)
  | (with_reducible refine LeO.ite ?_ ?_)
  | (with_reducible refine LeO.bind ?_ (fun _ => ?_))
  | exact preset_sharedPane.mono _ _ _ _ _ _
  | exact LeO.none _
  | refine LeO.ite ?_ ?_
  | refine LeO.bind ?_ (fun _ => ?_)
def preset_size_pile.T1 : Bool × List (List Nat × List Nat) := (true, [([], []), ([], []), ([1], [1]), ([0, 2, 2], [0, 2]), ([3], [3]), ([3], [3]), ([4, 3, 0, 1, 2, 3, 4, 5], [4]), ([5, 6, 0, 1, 2, 3, 4, 5, 6], [5])])
def preset_size_pile.B1 : List Nat := [0, 0, 2, 7, 15, 15, 63, 127]
theorem preset_size_pile.tab1 : rtab .any (opsOf Try.f47 1) = preset_size_pile.T1 := by kernel_rfl
theorem preset_size_pile.bits1 : waitsOk preset_size_pile.T1.2 preset_size_pile.B1 = true := by kernel_rfl
set_option maxHeartbeats 8000000 in
set_option maxRecDepth 100000 in
theorem preset_size_pile.calls (k : Nat) (a0_0 : Int) (a0_1 : Int) (A1 : Option Addr) (c1 : Nat) (l1 : List Int) (r1 : Int) (r2 : Int) (r3 : Int) (r4 : List (S31)) (r5 : Bool) (w : World) (hr1 : Kd.C (Kd.int .i64) w A1 l1.length l1) (hc1 : l1.length ≤ c1) (h : preset_size_pile.f k a0_0 a0_1 l1 = some (r1, r2, r3, r4, r5)) :
 Calls Try.prog 47 #[.agg #[.int .i64 a0_0, .int .i64 a0_1], .slice A1 l1.length c1] w fun e w' => ∃ v3_ : Value, e = .returned (.tuple #[.agg #[.int .i64 r1, .int .i64 r2, .int .i64 r3, v3_], .bool r5]) ∧ Kd.R k31 31 w' w.heap.size (fun _ => True) v3_ r4 ∧ Below w.heap.size w w' := by
 have hu83 := Try.underlying83
 have hu31 := Try.underlying31
 have HR1 := zM hr1
 have HC1 := zM hc1
 clear hr1 hc1
 have HB := zM (Below.refl w.heap.size w)
 have H : ((preset_each.f l1).bind fun t176 => ((preset_sharedPane.f k a0_0 a0_1 2 t176 91).bind fun bt179 => (some (bt179.1, bt179.2.1, bt179.2.2.1, bt179.2.2.2.1, bt179.2.2.2.2)))) = some (r1, r2, r3, r4, r5) := h
 clear h
 replace H := Option.bind_eq_some_iff.mp H
 obtain ⟨t176, A30, H⟩ := H
 replace H : ((preset_sharedPane.f k a0_0 a0_1 2 t176 91).bind fun bt179 => (some (bt179.1, bt179.2.1, bt179.2.2.1, bt179.2.2.2.1, bt179.2.2.2.2))) = some (r1, r2, r3, r4, r5) := H
 have A3 := zM A30
 clear A30
 replace H := Option.bind_eq_some_iff.mp H
 obtain ⟨⟨t179, t180, t181, t182, t185⟩, A40, H⟩ := H
 replace H : (some (t179, t180, t181, t182, t185)) = some (r1, r2, r3, r4, r5) := H
 have A4 := zM A40
 clear A40
 simp only [Option.some.injEq, Prod.mk.injEq] at H
 obtain ⟨rfl, rfl, rfl, rfl, rfl⟩ := H
 go_enter Try.func47, Try.ntmps47
 try go_wp2_with (first | ((with_reducible refine gate_dst (N := 2) rfl ?_); refine box_event ?hg (N := 2) ?hd (cs := #[.int .i64 a0_0, .int .i64 a0_1]) (t := 83) ?hr ?_; (case hd => rfl); (case hg => rfl); (case hr => first | (go_simp; done) | (go_simp; rfl)); intro gb174 hg w5 hbox hb; have BK174 := zM (hbox); have GW174 := zM ((by rw [hg]; exact (below_size (by first | exact HB.out | exact zN HB.out _ | exact zD HB.out)) : w.heap.size ≤ gb174)); have GE174 := GW174; replace HB := zM (below_step (by first | exact HB.out | exact zN HB.out _ | exact zD HB.out) hb); clear hb hbox hg) | ((with_reducible refine gate_dst (N := 4) rfl ?_); refine box_event ?hg (N := 4) ?hd (cs := #[.int .i64 0, .int .i64 0, .int .i64 0, .slice none 0 0]) (t := 31) ?hr ?_; (case hd => rfl); (case hg => rfl); (case hr => first | (go_simp; done) | (go_simp; rfl)); intro gb175 hg w6 hbox hb; have BK175 := zM (hbox); have GW175 := zM ((by rw [hg]; exact (below_size (by repeat first | refine zS ?_ GE174.out | exact HB.out | apply zA | apply zN | apply zD)) : w.heap.size ≤ gb175)); have GE175 := GW175; have NB174_175 := zM ((by rw [hg]; exact lt1 BK174.out : gb174 ≠ gb175)); have NB175_174 := zM ((by rw [hg]; exact gt1 BK174.out : gb175 ≠ gb174)); replace BK174 := zM (bb hb BK174.out); replace HB := zM (below_step (by repeat first | refine zS ?_ GE174.out | exact HB.out | apply zA | apply zN | apply zD) hb); clear hb hbox hg))
 replace BK174 := zM (blk_drew BK174.out); replace BK175 := zM (blk_drew BK175.out); replace HB := zM (zD HB.out)
 refine start_ (n := 8) (S := fun w' => w'.cell? ⟨gb174, 0, none⟩ = some (.int .i64 a0_0) ∧ w'.cell? ⟨gb174, 1, none⟩ = some (.int .i64 a0_1)) (ds := []) #[false, false, false, false, false, false, false, false] (by kernel_rfl) rfl rfl ⟨(blk_cell BK174.out 0).trans rfl, (blk_cell BK174.out 1).trans rfl⟩ (fun hHeld => ?_); refine with_tabW preset_size_pile.tab1 preset_size_pile.bits1 (fun HT_ HW_ => ?_)
 generalize w6.drew = w7 at BK174 BK175 HB hHeld ⊢
 refine pv (v := ?_) (a' := ?_) HT_.out 1 (some 7) #[false, true, false, false, false, false, false, false] ?_ ?_ ?_; rotate_left 2; (·intro w'; go_simp; with_reducible rfl); (·simp only [Act.put, s1, s2, s3, i64_w, i32_w]; rfl)
 refine take_ (i := 0) (N := some 6) (v := ?_) (a' := ?_) #[true, true, false, false, false, false, false, false] rfl rfl (take_ofW HT_.out HW_.out (by kernel_rfl)) (fun _ _ _ h => h) (Or.inl ⟨by rfl, ?_⟩) hHeld ?_ ?_; rotate_left; (·rintro w' ⟨s0, s1⟩; go_simp; with_reducible rfl); rotate_left; (·simp only [Act.put, s1, s2, s3, i64_w, i32_w]; rfl)
 refine one_ (i := 2) (N := some 8) #[true, true, true, false, false, false, false, false] rfl rfl (one_of HT_.out (by kernel_rfl)) (by decide) (fun K hK => ?_)
 refine goes_ Try.func90 (by kernel_rfl) rfl #[.slice A1 l1.length c1] (by rfl) rfl rfl (by (try simp only [List.map_toArray, List.map_cons, List.map_nil]); first | done | rfl | (simp only [List.length_drop, List.length_take]; rfl)) ?_
 with_reducible refine (preset_each.calls _ _ l1 t176 _ ?side1 ?side2 A3.out).mono ?_
 (case side1 => repeat (first | exact (Kd.C_below HR1.out HB.out) | (with_reducible refine Kd.C_alloc ?_ _) | (with_reducible refine Kd.C_drewN ?_ _) | (with_reducible refine Kd.C_drew ?_)))
 (case side2 => exact HC1.out)
 rintro e w8 ⟨v177, rfl, ho0, hb⟩
 refine ⟨_, rfl, ?_⟩
 have HO178 := zM ho0; replace BK174 := zM (bb hb BK174.out); replace BK175 := zM (bb hb BK175.out); replace HB := zM (below_step (by repeat first | refine zS ?_ GE174.out | refine zS ?_ GE175.out | exact HB.out | apply zA | apply zN | apply zD) hb)
 (try clear hb)
 (try clear hb2)
 (try clear hk)
 (try clear hi)
 (try clear ho0)
 obtain ⟨Ao9, co9, eo9⟩ := ShS.value HO178.out
 (first | subst eo9 | (injection eo9 with f1_ f2_ f3_; have f4_ := f1_.symm; have f5_ := f3_.symm; clear f1_ f2_ f3_; subst f4_; subst f5_))
 refine hK.out _ _ ⟨(blk_cell BK174.out 0).trans rfl, (blk_cell BK174.out 1).trans rfl⟩ (fun hHeld => ?_)
 clear hK K
 refine norm_ (a' := ?_) ?_ ?_
 rotate_left
 ·show Act.put _ (some 8) _ = _
  simp only [Act.put, s1, s2, s3, i64_w, i32_w]
  rfl
 refine one_ (i := 3) (N := some 9) #[true, true, true, true, false, false, false, false] rfl rfl (one_of HT_.out (by kernel_rfl)) (by decide) (fun K hK => ?_)
 refine goes_ Try.func89 (by kernel_rfl) rfl #[.agg #[.int .i64 a0_0, .int .i64 a0_1], .int .i64 2, .slice Ao9 t176.length co9, .func (.func 91) #[] #[]] (by rfl) rfl rfl (by (try simp only [List.map_toArray, List.map_cons, List.map_nil]); first | done | rfl | (simp only [List.length_drop, List.length_take]; rfl)) ?_
 with_reducible refine (preset_sharedPane.calls k a0_0 a0_1 2 _ _ t176 91 t179 t180 t181 t182 t185 _ ?side1 ?side2 A4.out).mono ?_
 (case side1 => repeat (first | exact (ShS.reads HO178.out).2.2 | (with_reducible refine Kd.C_alloc ?_ _) | (with_reducible refine Kd.C_drewN ?_ _) | (with_reducible refine Kd.C_drew ?_)))
 (case side2 => exact (ShS.reads HO178.out).2.1)
 rintro e w10 ⟨v183, rfl, ho0, hb⟩
 refine ⟨_, rfl, ?_⟩
 have HO184 := zM (Kd.R_lower (Kd.R_newB ho0 (g := gb175) (o := .cells #[.int .i64 0, .int .i64 0, .int .i64 0, .slice none 0 0] 31 (0, 0)) (by (with_reducible repeat (first | refine blk_drewN ?_ _ | refine blk_drew ?_ | refine blk_alloc ?_ _)); exact BK175.out)) (below_size (by repeat first | refine zS ?_ GE174.out | refine zS ?_ GE175.out | exact HB.out | apply zA | apply zN | apply zD))); replace HO178 := zM (ShS.below HO178.out hb); replace BK174 := zM (bb hb BK174.out); replace BK175 := zM (bb hb BK175.out); replace HB := zM (below_step (by repeat first | refine zS ?_ GE174.out | refine zS ?_ GE175.out | exact HB.out | apply zA | apply zN | apply zD) hb)
 (try clear hb)
 (try clear hb2)
 (try clear hk)
 (try clear hi)
 (try clear ho0)
 obtain ⟨Ao14, co14, eo14⟩ := Kd.R_slice HO184.out
 (first | subst eo14 | (injection eo14 with f1_ f2_ f3_; have f4_ := f1_.symm; have f5_ := f3_.symm; clear f1_ f2_ f3_; subst f4_; subst f5_))
 refine hK.out _ _ ⟨(blk_cell BK174.out 0).trans rfl, (blk_cell BK174.out 1).trans rfl⟩ (fun hHeld => ?_)
 clear hK K
 refine norm_ (a' := ?_) ?_ ?_
 rotate_left
 ·show Act.put _ (some 9) _ = _
  simp only [Act.put, s1, s2, s3, i64_w, i32_w]
  rfl
 refine pv (v := ?_) (a' := ?_) HT_.out 4 (some 10) #[true, true, true, true, true, false, false, false] ?_ ?_ ?_; rotate_left 2; (·intro w'; go_simp; with_reducible rfl); (·simp only [Act.put, s1, s2, s3, i64_w, i32_w]; rfl)
 refine pv (v := ?_) (a' := ?_) HT_.out 5 (some 11) #[true, true, true, true, true, true, false, false] ?_ ?_ ?_; rotate_left 2; (·intro w'; go_simp; with_reducible rfl); (·simp only [Act.put, s1, s2, s3, i64_w, i32_w]; rfl)
 refine one_ (i := 6) (N := none) #[true, true, true, true, true, true, true, false] rfl rfl (one_of HT_.out (by kernel_rfl)) (by decide) (fun K hK => ?_)
 have hs11 : w10.cell? ⟨gb175, 0, none⟩ = some (.int .i64 0) := (blk_cell BK175.out 0).trans rfl
 have hfs11 := blk_frozen BK175.out 0
 have hns11_0 := NB174_175.out
 have hms11_0 := NB175_174.out
 have hs12 : w10.cell? ⟨gb175, 1, none⟩ = some (.int .i64 0) := (blk_cell BK175.out 1).trans rfl
 have hfs12 := blk_frozen BK175.out 1
 have hns12_0 := NB174_175.out
 have hms12_0 := NB175_174.out
 have hs13 : w10.cell? ⟨gb175, 2, none⟩ = some (.int .i64 0) := (blk_cell BK175.out 2).trans rfl
 have hfs13 := blk_frozen BK175.out 2
 have hns13_0 := NB174_175.out
 have hms13_0 := NB175_174.out
 have hs15 : w10.cell? ⟨gb175, 3, none⟩ = some (.slice none 0 0) := (blk_cell BK175.out 3).trans rfl
 have hfs15 := blk_frozen BK175.out 3
 have hns15_0 := NB174_175.out
 have hms15_0 := NB175_174.out
 refine skip_ (w1 := ?_) (by rfl) rfl ?_ ?_
 rotate_left
 ·go_simp
  rfl
 refine hK.out _ _ ⟨((cell_far (p := ⟨gb175, _, none⟩) NB174_175.out _).trans (((cell_far (p := ⟨gb175, _, none⟩) NB174_175.out _).trans (((cell_far (p := ⟨gb175, _, none⟩) NB174_175.out _).trans (((cell_far (p := ⟨gb175, _, none⟩) NB174_175.out _).trans (hHeld.1)))))))), ((cell_far (p := ⟨gb175, _, none⟩) NB174_175.out _).trans (((cell_far (p := ⟨gb175, _, none⟩) NB174_175.out _).trans (((cell_far (p := ⟨gb175, _, none⟩) NB174_175.out _).trans (((cell_far (p := ⟨gb175, _, none⟩) NB174_175.out _).trans (hHeld.2))))))))⟩ (fun hHeld => ?_)
 clear hK K
 refine pv (v := ?_) (a' := ?_) HT_.out 7 (some 5) #[true, true, true, true, true, true, true, true] ?_ ?_ ?_; rotate_left 2; (·intro w'; go_simp; with_reducible rfl); (·simp only [Act.put, s1, s2, s3, i64_w, i32_w]; rfl)
 refine done_ (done_of HT_.out (by kernel_rfl)) ?_
 try go_wp2
 refine bodyPost_ret (results_ct rfl _ _ gb175 31 #[.int .i64 t179, .int .i64 t180, .int .i64 t181, .slice Ao14 t182.length co14] (0, 0) _ rfl (by exact (put4 BK175.out)) Try.underlying31 rfl (by kernel_rfl)) rfl ?_
 exact ⟨_, by first | rfl | (simp [errW_none, errW_some] <;> rfl) | (simp [*, errW_none, errW_some] <;> rfl), by (with_reducible repeat (first | apply Kd.R_alloc | apply Kd.R_drewN | apply Kd.R_drew)); exact Kd.R_mono (Kd.R_far (p := ⟨gb175, 3, none⟩) (Kd.R_far (p := ⟨gb175, 2, none⟩) (Kd.R_far (p := ⟨gb175, 1, none⟩) (Kd.R_far (p := ⟨gb175, 0, none⟩) (Kd.R_mono HO184.out (fun k_ hk => (⟨hk, hk.2⟩ : _ ∧ k_ ≠ gb175))) (fun _ hk => hk.2) (.int .i64 t179)) (fun _ hk => hk.2) (.int .i64 t180)) (fun _ hk => hk.2) (.int .i64 t181)) (fun _ hk => hk.2) (.slice Ao14 t182.length co14)) (fun _ hk => trivial), by repeat first | refine zS ?_ GE174.out | refine zS ?_ GE175.out | exact HB.out | apply zA | apply zN | apply zD⟩
end Go.Proofs.Ytplngfammfdemaa.Q
end
