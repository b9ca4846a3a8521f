-- A copy of the text YtbnpcnpdeinacaaDoorPxT with what this claim does not reach left out (prune.py, a program of this project).
import Derived.Test.YtbnpcnpdeinacaaDoorZkPx0
import Derived.Test.YtbnpcnpdeinacaaDoorZkGShort
import Derived.Test.YtbnpcnpdeinacaaDoorZkPx10
import Derived.Test.YtbnpcnpdeinacaaDoorZkPx11
namespace Go.Proofs.YtbnpcnpdeinacaaDoor.P
open Go.RowKit Go.Proofs.YtbnpcnpdeinacaaDoor Go.Proofs.YtbnpcnpdeinacaaDoorW.PrintWords Go.Proofs.YtbnpcnpdeinacaaDoorW.PrintLast Go.Proofs.YtbnpcnpdeinacaaDoorW.PrintMore
attribute [local go_sem] max2_int min2_int max_two min_two max_three min_three max_four min_four   -- for this text's walks alone
set_option linter.unusedVariables false
set_option linter.unusedSimpArgs false
def backseatlaw03_KeysTake.j0 : Nat → ByteArray → ByteArray → Int → Bool → Option (Bool)
 | 0, _, _, _, _ => none
 | k + 1, x2, x9, x10, x51 => if x51 = true then (some false) else ((backseatref03_Bytes.f k x2).bind fun t240 => (if t240.toList = ([] : List UInt8) then (if x10 = 1 then (some (x9.toList == ([] : List UInt8))) else (some false)) else (if x10 = 0 then (some (x9.toList == t240.toList)) else (some false))))
def backseatlaw03_KeysTake.f (k : Nat) (a0 : ByteArray) (a1 : Bool) (a2 : ByteArray) : Option (Bool) := if 0 ≤ (mn (a0.size : Int) 100) then (if (mn (a0.size : Int) 100) ≤ (a0.size : Int) then (if 0 ≤ (mn (a2.size : Int) 20) then (if (mn (a2.size : Int) 20) ≤ (a2.size : Int) then ((keys_Decode.f (a0.extract 0 ((mn (a0.size : Int) 100) : Int).toNat) a1).bind fun bt227 => ((keys_Bytes.f (a2.extract 0 ((mn (a2.size : Int) 20) : Int).toNat)).bind fun bt231 => ((backseatref03_Decode.f k (a0.extract 0 ((mn (a0.size : Int) 100) : Int).toNat) a1).bind fun bt233 => ((backseatref03_Same.f k bt227.1 bt233.1).bind fun t238 => (if t238 = true then (if bt227.2.toList = bt233.2.toList then ((backseatlaw03_alive.f).bind fun t239 => (backseatlaw03_KeysTake.j0 k (a2.extract 0 ((mn (a2.size : Int) 20) : Int).toNat) bt231.1 bt231.2 (!t239))) else (backseatlaw03_KeysTake.j0 k (a2.extract 0 ((mn (a2.size : Int) 20) : Int).toNat) bt231.1 bt231.2 true)) else (backseatlaw03_KeysTake.j0 k (a2.extract 0 ((mn (a2.size : Int) 20) : Int).toNat) bt231.1 bt231.2 true)))))) else (none)) else (none)) else (none)) else (none)
theorem backseatlaw03_KeysTake.mono_l : ∀ k, (∀ y0 y1 y2 y3, LeO (backseatlaw03_KeysTake.j0 k y0 y1 y2 y3) (backseatlaw03_KeysTake.j0 (k + 1) y0 y1 y2 y3))
 | 0 => fun _ _ _ _ r h => by simp [backseatlaw03_KeysTake.j0] at h
 | k + 1 => by
  have ih0 := backseatlaw03_KeysTake.mono_l k
  ·intro y0 y1 y2 y3
   unfold backseatlaw03_KeysTake.j0
   repeat' first
   | (with_reducible exact ih0 _ _ _ _)
   | (with_reducible exact backseatref03_Bytes.mono _ _)
   | (with_reducible exact backseatref03_Decode.mono _ _ _)
   | (with_reducible exact backseatref03_Same.mono _ _ _)
   | (with_reducible exact LeO.refl _)
   | (with_reducible exact LeO.none _)
   | (with_reducible refine LeO.ite ?_ ?_)
   | (with_reducible refine LeO.bind ?_ (fun _ => ?_))
   | exact ih0 _ _ _ _
   | exact backseatref03_Bytes.mono _ _
   | exact backseatref03_Decode.mono _ _ _
   | exact backseatref03_Same.mono _ _ _
   | exact LeO.none _
   | refine LeO.ite ?_ ?_
   | refine LeO.bind ?_ (fun _ => ?_)
theorem backseatlaw03_KeysTake.mono : ∀ a0 a1 a2 k, LeO (backseatlaw03_KeysTake.f k a0 a1 a2) (backseatlaw03_KeysTake.f (k + 1) a0 a1 a2) := by
 intro a0 a1 a2 k
 have ih0 := backseatlaw03_KeysTake.mono_l k
 unfold backseatlaw03_KeysTake.f
 repeat' first
  | (with_reducible exact ih0 _ _ _ _)
  | (with_reducible exact backseatref03_Bytes.mono _ _)
  | (with_reducible exact backseatref03_Decode.mono _ _ _)
  | (with_reducible exact backseatref03_Same.mono _ _ _)
  | (with_reducible exact LeO.refl _)
  | (with_reducible exact LeO.none _)
  | (with_reducible refine LeO.ite ?_ ?_)
  | (with_reducible refine LeO.bind ?_ (fun _ => ?_))
  | exact ih0 _ _ _ _
  | exact backseatref03_Bytes.mono _ _
  | exact backseatref03_Decode.mono _ _ _
  | exact backseatref03_Same.mono _ _ _
  | exact LeO.none _
  | refine LeO.ite ?_ ?_
  | refine LeO.bind ?_ (fun _ => ?_)
set_option maxHeartbeats 8000000 in
set_option maxRecDepth 100000 in
theorem backseatlaw03_KeysTake.calls (k : Nat) (a0 : ByteArray) (a1 : Bool) (a2 : ByteArray) (r : Bool) (w : World) (h : backseatlaw03_KeysTake.f k a0 a1 a2 = some r) (hT : TabsAt w := by first | with_reducible assumption | exact tabs_here (by with_reducible assumption) (by repeat (with_reducible first | assumption | apply zA | apply zN | apply zD | (refine Below.setCell ?_ ?_ _) | exact Aside0.out (by assumption)))) :
 Calls Tryd.prog 4 #[.string a0, .bool a1, .string a2] w fun e w' => e = .returned (.bool r) ∧ Below w.heap.size w w' := by
 have hu33 := Tryd.underlying33
 have HB := zM (Below.refl w.heap.size w)
 have H : (if 0 ≤ (mn (a0.size : Int) 100) then (if (mn (a0.size : Int) 100) ≤ (a0.size : Int) then (if 0 ≤ (mn (a2.size : Int) 20) then (if (mn (a2.size : Int) 20) ≤ (a2.size : Int) then ((keys_Decode.f (a0.extract 0 ((mn (a0.size : Int) 100) : Int).toNat) a1).bind fun bt227 => ((keys_Bytes.f (a2.extract 0 ((mn (a2.size : Int) 20) : Int).toNat)).bind fun bt231 => ((backseatref03_Decode.f k (a0.extract 0 ((mn (a0.size : Int) 100) : Int).toNat) a1).bind fun bt233 => ((backseatref03_Same.f k bt227.1 bt233.1).bind fun t238 => (if t238 = true then (if bt227.2.toList = bt233.2.toList then ((backseatlaw03_alive.f).bind fun t239 => (backseatlaw03_KeysTake.j0 k (a2.extract 0 ((mn (a2.size : Int) 20) : Int).toNat) bt231.1 bt231.2 (!t239))) else (backseatlaw03_KeysTake.j0 k (a2.extract 0 ((mn (a2.size : Int) 20) : Int).toNat) bt231.1 bt231.2 true)) else (backseatlaw03_KeysTake.j0 k (a2.extract 0 ((mn (a2.size : Int) 20) : Int).toNat) bt231.1 bt231.2 true)))))) else (none)) else (none)) else (none)) else (none)) = some r := h
 clear h
 obtain ⟨ji4, hji4⟩ : ∃ j_ : Int, (mn (a0.size : Int) 100) = j_ := ⟨_, rfl⟩
 replace H : (if 0 ≤ (ji4) then (if (ji4) ≤ (a0.size : Int) then (if 0 ≤ (mn (a2.size : Int) 20) then (if (mn (a2.size : Int) 20) ≤ (a2.size : Int) then ((keys_Decode.f (a0.extract 0 ((ji4) : Int).toNat) a1).bind fun bt227 => ((keys_Bytes.f (a2.extract 0 ((mn (a2.size : Int) 20) : Int).toNat)).bind fun bt231 => ((backseatref03_Decode.f k (a0.extract 0 ((ji4) : Int).toNat) a1).bind fun bt233 => ((backseatref03_Same.f k bt227.1 bt233.1).bind fun t238 => (if t238 = true then (if bt227.2.toList = bt233.2.toList then ((backseatlaw03_alive.f).bind fun t239 => (backseatlaw03_KeysTake.j0 k (a2.extract 0 ((mn (a2.size : Int) 20) : Int).toNat) bt231.1 bt231.2 (!t239))) else (backseatlaw03_KeysTake.j0 k (a2.extract 0 ((mn (a2.size : Int) 20) : Int).toNat) bt231.1 bt231.2 true)) else (backseatlaw03_KeysTake.j0 k (a2.extract 0 ((mn (a2.size : Int) 20) : Int).toNat) bt231.1 bt231.2 true)))))) else (none)) else (none)) else (none)) else (none)) = some r := by first | (rw [hji4] at H; exact H) | (simp only [hji4] at H ⊢; exact H)
 (try (have hji4h : ji4 ≤ 100 := by (rw [← hji4]; unfold mn; (repeat' split) <;> omega)))
 (try (have hji4g : ji4 ≤ 64 := by omega))
 (try (have hji4l : 0 ≤ ji4 := by (rw [← hji4]; unfold mn; (repeat' split) <;> omega)))
 (try (have hji4m : 0 ≤ ji4 := by omega))
 have hji4_ : (if 100 < (a0.size : Int) then 100 else (a0.size : Int)) = ji4 := hji4
 by_cases c5 : 0 ≤ (ji4)
 ·rw [if_pos c5] at H
  have c5b0 := eq_true c5
  have c5b1 : decide (0 ≤ (ji4)) = true := decide_eq_true c5
  clear c5
  by_cases c6 : (ji4) ≤ (a0.size : Int)
  ·rw [if_pos c6] at H
   have c6b0 := eq_true c6
   have c6b1 : decide ((ji4) ≤ (a0.size : Int)) = true := decide_eq_true c6
   clear c6
   obtain ⟨ji7, hji7⟩ : ∃ j_ : Int, (mn (a2.size : Int) 20) = j_ := ⟨_, rfl⟩
   replace H : (if 0 ≤ (ji7) then (if (ji7) ≤ (a2.size : Int) then ((keys_Decode.f (a0.extract 0 ((ji4) : Int).toNat) a1).bind fun bt227 => ((keys_Bytes.f (a2.extract 0 ((ji7) : Int).toNat)).bind fun bt231 => ((backseatref03_Decode.f k (a0.extract 0 ((ji4) : Int).toNat) a1).bind fun bt233 => ((backseatref03_Same.f k bt227.1 bt233.1).bind fun t238 => (if t238 = true then (if bt227.2.toList = bt233.2.toList then ((backseatlaw03_alive.f).bind fun t239 => (backseatlaw03_KeysTake.j0 k (a2.extract 0 ((ji7) : Int).toNat) bt231.1 bt231.2 (!t239))) else (backseatlaw03_KeysTake.j0 k (a2.extract 0 ((ji7) : Int).toNat) bt231.1 bt231.2 true)) else (backseatlaw03_KeysTake.j0 k (a2.extract 0 ((ji7) : Int).toNat) bt231.1 bt231.2 true)))))) else (none)) else (none)) = some r := by first | (rw [hji7] at H; exact H) | (simp only [hji7] at H ⊢; exact H)
   (try (have hji7h : ji7 ≤ 20 := by (rw [← hji7]; unfold mn; (repeat' split) <;> omega)))
   (try (have hji7g : ji7 ≤ 64 := by omega))
   (try (have hji7l : 0 ≤ ji7 := by (rw [← hji7]; unfold mn; (repeat' split) <;> omega)))
   (try (have hji7m : 0 ≤ ji7 := by omega))
   have hji7_ : (if 20 < (a2.size : Int) then 20 else (a2.size : Int)) = ji7 := hji7
   by_cases c8 : 0 ≤ (ji7)
   ·rw [if_pos c8] at H
    have c8b0 := eq_true c8
    have c8b1 : decide (0 ≤ (ji7)) = true := decide_eq_true c8
    clear c8
    by_cases c9 : (ji7) ≤ (a2.size : Int)
    ·rw [if_pos c9] at H
     have c9b0 := eq_true c9
     have c9b1 : decide ((ji7) ≤ (a2.size : Int)) = true := decide_eq_true c9
     clear c9
     replace H := Option.bind_eq_some_iff.mp H
     obtain ⟨⟨t227, t228⟩, A100, H⟩ := H
     replace H : ((keys_Bytes.f (a2.extract 0 ((ji7) : Int).toNat)).bind fun bt231 => ((backseatref03_Decode.f k (a0.extract 0 ((ji4) : Int).toNat) a1).bind fun bt233 => ((backseatref03_Same.f k t227 bt233.1).bind fun t238 => (if t238 = true then (if t228.toList = bt233.2.toList then ((backseatlaw03_alive.f).bind fun t239 => (backseatlaw03_KeysTake.j0 k (a2.extract 0 ((ji7) : Int).toNat) bt231.1 bt231.2 (!t239))) else (backseatlaw03_KeysTake.j0 k (a2.extract 0 ((ji7) : Int).toNat) bt231.1 bt231.2 true)) else (backseatlaw03_KeysTake.j0 k (a2.extract 0 ((ji7) : Int).toNat) bt231.1 bt231.2 true))))) = some r := H
     have A10 := zM A100
     clear A100
     replace H := Option.bind_eq_some_iff.mp H
     obtain ⟨⟨t231, t232⟩, A110, H⟩ := H
     replace H : ((backseatref03_Decode.f k (a0.extract 0 ((ji4) : Int).toNat) a1).bind fun bt233 => ((backseatref03_Same.f k t227 bt233.1).bind fun t238 => (if t238 = true then (if t228.toList = bt233.2.toList then ((backseatlaw03_alive.f).bind fun t239 => (backseatlaw03_KeysTake.j0 k (a2.extract 0 ((ji7) : Int).toNat) t231 t232 (!t239))) else (backseatlaw03_KeysTake.j0 k (a2.extract 0 ((ji7) : Int).toNat) t231 t232 true)) else (backseatlaw03_KeysTake.j0 k (a2.extract 0 ((ji7) : Int).toNat) t231 t232 true)))) = some r := H
     have A11 := zM A110
     clear A110
     replace H := Option.bind_eq_some_iff.mp H
     obtain ⟨⟨t233, t236⟩, A120, H⟩ := H
     replace H : ((backseatref03_Same.f k t227 t233).bind fun t238 => (if t238 = true then (if t228.toList = t236.toList then ((backseatlaw03_alive.f).bind fun t239 => (backseatlaw03_KeysTake.j0 k (a2.extract 0 ((ji7) : Int).toNat) t231 t232 (!t239))) else (backseatlaw03_KeysTake.j0 k (a2.extract 0 ((ji7) : Int).toNat) t231 t232 true)) else (backseatlaw03_KeysTake.j0 k (a2.extract 0 ((ji7) : Int).toNat) t231 t232 true))) = some r := H
     have A12 := zM A120
     clear A120
     have HC13 := zM H
     clear H
     go_enter Tryd.func4, Tryd.ntmps4
     go_upto_region 5 with (first | (go_at_call 6; (with_reducible refine (keys_Decode.calls (a0.extract 0 ((ji4) : Int).toNat) a1 t227 t228 _ A10.out).mono ?_); rintro e w14 ⟨v229, rfl, ho0, hb⟩; have HO230 := zM (Kd.R_lower ho0 (below_size (by first | exact HB.out | exact zN HB.out _ | exact zD HB.out))); replace HB := zM (below_step (by first | exact HB.out | exact zN HB.out _ | exact zD HB.out) hb); (try clear hb); (try clear hb2); (try clear hk); (try clear hi); (try clear ho0)) | (go_at_call 9; (with_reducible refine (keys_Bytes.calls (a2.extract 0 ((ji7) : Int).toNat) t231 t232 _ A11.out).mono ?_); rintro e w15 ⟨rfl, hb⟩; replace HO230 := zM (Kd.R_below (by (with_reducible repeat (first | apply Kd.R_alloc | apply Kd.R_drewN | apply Kd.R_drew)); exact HO230.out) hb); replace HB := zM (below_step (by first | exact HB.out | exact zN HB.out _ | exact zD HB.out) hb); (try clear hb); (try clear hb2); (try clear hk); (try clear hi)) | (go_at_call 10; (with_reducible refine (backseatref03_Decode.calls k (a0.extract 0 ((ji4) : Int).toNat) a1 t233 t236 _ A12.out).mono ?_); rintro e w16 ⟨v234, rfl, ho0, hb⟩; have HO235 := zM (Kd.R_lower (Kd.R_new' ho0 (Kd.R_lt (by (with_reducible repeat (first | apply Kd.R_alloc | apply Kd.R_drewN | apply Kd.R_drew)); exact HO230.out))) (below_size (by first | exact HB.out | exact zN HB.out _ | exact zD HB.out))); replace HO230 := zM (Kd.R_elder' (by (with_reducible repeat (first | apply Kd.R_alloc | apply Kd.R_drewN | apply Kd.R_drew)); exact HO230.out) (Kd.R_base ho0) hb); replace HB := zM (below_step (by first | exact HB.out | exact zN HB.out _ | exact zD HB.out) hb); (try clear hb); (try clear hb2); (try clear hk); (try clear hi); (try clear ho0)) | ((with_reducible refine gate_dst (N := 11) rfl ?_); refine box_event ?hg (N := 11) ?hd (cs := #[.slice none 0 0, .string (⟨#[]⟩ : ByteArray)]) (t := 33) ?hr ?_; (case hd => rfl); (case hg => rfl); (case hr => first | (go_simp; done) | (go_simp; rfl)); intro gb237 hg w17 hbox hb; have BK237 := zM (hbox); have GW237 := zM ((by rw [hg]; exact (below_size (by first | exact HB.out | exact zN HB.out _ | exact zD HB.out)) : w.heap.size ≤ gb237)); have GE237 := GW237; replace HO230 := zM (Kd.R_below (by (with_reducible repeat (first | apply Kd.R_alloc | apply Kd.R_drewN | apply Kd.R_drew)); exact HO230.out) hb); replace HO235 := zM (Kd.R_below (by (with_reducible repeat (first | apply Kd.R_alloc | apply Kd.R_drewN | apply Kd.R_drew)); exact HO235.out) hb); replace HB := zM (below_step (by first | exact HB.out | exact zN HB.out _ | exact zD HB.out) hb); clear hb hbox hg; obtain ⟨Ao18, co18, eo18⟩ := Kd.R_slice HO235.out; subst eo18; have hcz19_0 : w17.cell? ⟨gb237, 0, none⟩ = some (.slice none 0 0) := (blk_cell BK237.out 0).trans rfl; have hcz19_1 : w17.cell? ⟨gb237, 1, none⟩ = some (.string (⟨#[]⟩ : ByteArray)) := (blk_cell BK237.out 1).trans rfl; have hfz19_0 := blk_frozen BK237.out 0; have hfz19_1 := blk_frozen BK237.out 1))
     repeat (go_quiet (first | (go_at_call 6; (with_reducible refine (keys_Decode.calls (a0.extract 0 ((ji4) : Int).toNat) a1 t227 t228 _ A10.out).mono ?_); rintro e w14 ⟨v229, rfl, ho0, hb⟩; have HO230 := zM (Kd.R_lower ho0 (below_size (by first | exact HB.out | exact zN HB.out _ | exact zD HB.out))); replace HB := zM (below_step (by first | exact HB.out | exact zN HB.out _ | exact zD HB.out) hb); (try clear hb); (try clear hb2); (try clear hk); (try clear hi); (try clear ho0)) | (go_at_call 9; (with_reducible refine (keys_Bytes.calls (a2.extract 0 ((ji7) : Int).toNat) t231 t232 _ A11.out).mono ?_); rintro e w15 ⟨rfl, hb⟩; replace HO230 := zM (Kd.R_below (by (with_reducible repeat (first | apply Kd.R_alloc | apply Kd.R_drewN | apply Kd.R_drew)); exact HO230.out) hb); replace HB := zM (below_step (by first | exact HB.out | exact zN HB.out _ | exact zD HB.out) hb); (try clear hb); (try clear hb2); (try clear hk); (try clear hi)) | (go_at_call 10; (with_reducible refine (backseatref03_Decode.calls k (a0.extract 0 ((ji4) : Int).toNat) a1 t233 t236 _ A12.out).mono ?_); rintro e w16 ⟨v234, rfl, ho0, hb⟩; have HO235 := zM (Kd.R_lower (Kd.R_new' ho0 (Kd.R_lt (by (with_reducible repeat (first | apply Kd.R_alloc | apply Kd.R_drewN | apply Kd.R_drew)); exact HO230.out))) (below_size (by first | exact HB.out | exact zN HB.out _ | exact zD HB.out))); replace HO230 := zM (Kd.R_elder' (by (with_reducible repeat (first | apply Kd.R_alloc | apply Kd.R_drewN | apply Kd.R_drew)); exact HO230.out) (Kd.R_base ho0) hb); replace HB := zM (below_step (by first | exact HB.out | exact zN HB.out _ | exact zD HB.out) hb); (try clear hb); (try clear hb2); (try clear hk); (try clear hi); (try clear ho0)) | ((with_reducible refine gate_dst (N := 11) rfl ?_); refine box_event ?hg (N := 11) ?hd (cs := #[.slice none 0 0, .string (⟨#[]⟩ : ByteArray)]) (t := 33) ?hr ?_; (case hd => rfl); (case hg => rfl); (case hr => first | (go_simp; done) | (go_simp; rfl)); intro gb237 hg w17 hbox hb; have BK237 := zM (hbox); have GW237 := zM ((by rw [hg]; exact (below_size (by first | exact HB.out | exact zN HB.out _ | exact zD HB.out)) : w.heap.size ≤ gb237)); have GE237 := GW237; replace HO230 := zM (Kd.R_below (by (with_reducible repeat (first | apply Kd.R_alloc | apply Kd.R_drewN | apply Kd.R_drew)); exact HO230.out) hb); replace HO235 := zM (Kd.R_below (by (with_reducible repeat (first | apply Kd.R_alloc | apply Kd.R_drewN | apply Kd.R_drew)); exact HO235.out) hb); replace HB := zM (below_step (by first | exact HB.out | exact zN HB.out _ | exact zD HB.out) hb); clear hb hbox hg; obtain ⟨Ao18, co18, eo18⟩ := Kd.R_slice HO235.out; subst eo18; have hcz19_0 : w17.cell? ⟨gb237, 0, none⟩ = some (.slice none 0 0) := (blk_cell BK237.out 0).trans rfl; have hcz19_1 : w17.cell? ⟨gb237, 1, none⟩ = some (.string (⟨#[]⟩ : ByteArray)) := (blk_cell BK237.out 1).trans rfl; have hfz19_0 := blk_frozen BK237.out 0; have hfz19_1 := blk_frozen BK237.out 1)); go_upto_region 5 with (first | (go_at_call 6; (with_reducible refine (keys_Decode.calls (a0.extract 0 ((ji4) : Int).toNat) a1 t227 t228 _ A10.out).mono ?_); rintro e w14 ⟨v229, rfl, ho0, hb⟩; have HO230 := zM (Kd.R_lower ho0 (below_size (by first | exact HB.out | exact zN HB.out _ | exact zD HB.out))); replace HB := zM (below_step (by first | exact HB.out | exact zN HB.out _ | exact zD HB.out) hb); (try clear hb); (try clear hb2); (try clear hk); (try clear hi); (try clear ho0)) | (go_at_call 9; (with_reducible refine (keys_Bytes.calls (a2.extract 0 ((ji7) : Int).toNat) t231 t232 _ A11.out).mono ?_); rintro e w15 ⟨rfl, hb⟩; replace HO230 := zM (Kd.R_below (by (with_reducible repeat (first | apply Kd.R_alloc | apply Kd.R_drewN | apply Kd.R_drew)); exact HO230.out) hb); replace HB := zM (below_step (by first | exact HB.out | exact zN HB.out _ | exact zD HB.out) hb); (try clear hb); (try clear hb2); (try clear hk); (try clear hi)) | (go_at_call 10; (with_reducible refine (backseatref03_Decode.calls k (a0.extract 0 ((ji4) : Int).toNat) a1 t233 t236 _ A12.out).mono ?_); rintro e w16 ⟨v234, rfl, ho0, hb⟩; have HO235 := zM (Kd.R_lower (Kd.R_new' ho0 (Kd.R_lt (by (with_reducible repeat (first | apply Kd.R_alloc | apply Kd.R_drewN | apply Kd.R_drew)); exact HO230.out))) (below_size (by first | exact HB.out | exact zN HB.out _ | exact zD HB.out))); replace HO230 := zM (Kd.R_elder' (by (with_reducible repeat (first | apply Kd.R_alloc | apply Kd.R_drewN | apply Kd.R_drew)); exact HO230.out) (Kd.R_base ho0) hb); replace HB := zM (below_step (by first | exact HB.out | exact zN HB.out _ | exact zD HB.out) hb); (try clear hb); (try clear hb2); (try clear hk); (try clear hi); (try clear ho0)) | ((with_reducible refine gate_dst (N := 11) rfl ?_); refine box_event ?hg (N := 11) ?hd (cs := #[.slice none 0 0, .string (⟨#[]⟩ : ByteArray)]) (t := 33) ?hr ?_; (case hd => rfl); (case hg => rfl); (case hr => first | (go_simp; done) | (go_simp; rfl)); intro gb237 hg w17 hbox hb; have BK237 := zM (hbox); have GW237 := zM ((by rw [hg]; exact (below_size (by first | exact HB.out | exact zN HB.out _ | exact zD HB.out)) : w.heap.size ≤ gb237)); have GE237 := GW237; replace HO230 := zM (Kd.R_below (by (with_reducible repeat (first | apply Kd.R_alloc | apply Kd.R_drewN | apply Kd.R_drew)); exact HO230.out) hb); replace HO235 := zM (Kd.R_below (by (with_reducible repeat (first | apply Kd.R_alloc | apply Kd.R_drewN | apply Kd.R_drew)); exact HO235.out) hb); replace HB := zM (below_step (by first | exact HB.out | exact zN HB.out _ | exact zD HB.out) hb); clear hb hbox hg; obtain ⟨Ao18, co18, eo18⟩ := Kd.R_slice HO235.out; subst eo18; have hcz19_0 : w17.cell? ⟨gb237, 0, none⟩ = some (.slice none 0 0) := (blk_cell BK237.out 0).trans rfl; have hcz19_1 : w17.cell? ⟨gb237, 1, none⟩ = some (.string (⟨#[]⟩ : ByteArray)) := (blk_cell BK237.out 1).trans rfl; have hfz19_0 := blk_frozen BK237.out 0; have hfz19_1 := blk_frozen BK237.out 1)))
     (try simp only [Act.put, List.setIfInBounds_toArray, List.set_cons_zero, List.set_cons_succ])
     go_cut [51] (fun v51 wc => ∃ (kq : Nat) (x51_12 : Bool), v51 = .bool x51_12 ∧ Aside0 (backseatlaw03_KeysTake.j0 kq (a2.extract 0 ((ji7) : Int).toNat) t231 t232 x51_12 = some r) ∧ Aside0 (kq ≤ k) ∧ Aside0 (Kd.R Kd.string 9 wc w.heap.size (fun _ => True) (.slice Ao18 t233.length co18) t233) ∧ Aside0 (wc.heap[gb237]? = some (.cells #[(.slice Ao18 t233.length co18), .string t236] 33 (0, 0))) ∧ Aside0 (Below w.heap.size w wc))
     case first =>
      have H := HC13.out
      clear HC13
      replace H := Option.bind_eq_some_iff.mp H
      obtain ⟨t238, A200, H⟩ := H
      replace H : (if t238 = true then (if t228.toList = t236.toList then ((backseatlaw03_alive.f).bind fun t239 => (backseatlaw03_KeysTake.j0 k (a2.extract 0 ((ji7) : Int).toNat) t231 t232 (!t239))) else (backseatlaw03_KeysTake.j0 k (a2.extract 0 ((ji7) : Int).toNat) t231 t232 true)) else (backseatlaw03_KeysTake.j0 k (a2.extract 0 ((ji7) : Int).toNat) t231 t232 true)) = some r := H
      have A20 := zM A200
      clear A200
      by_cases c21 : t238 = true
      ·subst c21
       have H1 : (if t228.toList = t236.toList then ((backseatlaw03_alive.f).bind fun t239 => (backseatlaw03_KeysTake.j0 k (a2.extract 0 ((ji7) : Int).toNat) t231 t232 (!t239))) else (backseatlaw03_KeysTake.j0 k (a2.extract 0 ((ji7) : Int).toNat) t231 t232 true)) = some r := by rw [if_pos rfl] at H; exact H
       clear H
       have H := H1
       clear H1
       by_cases c22 : t228.toList = t236.toList
       ·rw [if_pos c22] at H
        have c22b0 : (t228.toList == t236.toList) = true := beq_iff_eq.mpr c22
        have c22b1 : (t228.toList != t236.toList) = false := bne_eq_false_iff_eq.mpr c22
        clear c22
        (first | rw [c22b0] | (simp only [i64_w, i32_w]; rw [c22b0]) | skip)
        replace H := Option.bind_eq_some_iff.mp H
        obtain ⟨t239, A230, H⟩ := H
        replace H : (backseatlaw03_KeysTake.j0 k (a2.extract 0 ((ji7) : Int).toNat) t231 t232 (!t239)) = some r := H
        have A23 := zM A230
        clear A230
        have H' := zM H
        clear H
        have hcz24_0 : w17.cell? ⟨gb237, 0, none⟩ = some (.slice none 0 0) := (blk_cell BK237.out 0).trans rfl
        have hcz24_1 : w17.cell? ⟨gb237, 1, none⟩ = some (.string (⟨#[]⟩ : ByteArray)) := (blk_cell BK237.out 1).trans rfl
        have hfz24_0 := blk_frozen BK237.out 0
        have hfz24_1 := blk_frozen BK237.out 1
        obtain ⟨Ao25, co25, eo25⟩ := Kd.R_slice HO230.out
        subst eo25
        go_wp2_with (first | (go_at_call 7; (with_reducible refine (backseatref03_Same.calls k _ _ t227 _ _ t233 true _ ?side1 ?side2 ?side3 ?side4 A20.out).mono ?_); (case side1 => refine (Kd.R_reads' (e := 9) (base := w.heap.size) (ok := fun k_ => (True ∧ some k_ ≠ (.slice Ao18 t233.length co18 : Value).ownBlock)) (n := t227.length) (c := co25) ?_).2.2; exact (by (with_reducible repeat (first | apply Kd.R_alloc | apply Kd.R_drewN | apply Kd.R_drew)); exact (Kd.R_mono (Kd.R_far (p := ⟨gb237, 1, none⟩) (Kd.R_far (p := ⟨gb237, 0, none⟩) (Kd.R_types HO230.out BK237.out (by decide)) (fun _ hk => hk.2) (.slice Ao18 t233.length co18)) (fun _ hk => hk.2) (.string t236)) (fun _ h_ => h_.1)))); (case side2 => exact (Kd.R_reads' HO230.out).2.1); (case side3 => refine (Kd.R_reads' (e := 9) (base := w.heap.size) (ok := fun k_ => (True ∧ some k_ ≠ (.slice Ao25 t227.length co25 : Value).ownBlock)) (n := t233.length) (c := co18) ?_).2.2; exact (by (with_reducible repeat (first | apply Kd.R_alloc | apply Kd.R_drewN | apply Kd.R_drew)); exact (Kd.R_mono (Kd.R_far (p := ⟨gb237, 1, none⟩) (Kd.R_far (p := ⟨gb237, 0, none⟩) (Kd.R_types HO235.out BK237.out (by decide)) (fun _ hk => hk.2) (.slice Ao18 t233.length co18)) (fun _ hk => hk.2) (.string t236)) (fun _ h_ => h_.1)))); (case side4 => exact (Kd.R_reads' HO235.out).2.1); rintro e w' ⟨rfl, ⟨nd, rfl⟩⟩; (try first | exact ⟨rfl, _, World.drewN_drewN _ _ _⟩ | exact ⟨rfl, _, Eq.trans (World.drewN_drewN _ _ _) (congrArg (World.drewN _) (Nat.add_assoc _ _ _))⟩)) | (go_at_call 8; (with_reducible refine (backseatlaw03_alive.calls  t239 _ A23.out).mono ?_); rintro e w26 ⟨rfl, hb⟩; replace HO230 := zM (Kd.R_below (by (with_reducible repeat (first | apply Kd.R_alloc | apply Kd.R_drewN | apply Kd.R_drew)); exact (Kd.R_mono (Kd.R_far (p := ⟨gb237, 1, none⟩) (Kd.R_far (p := ⟨gb237, 0, none⟩) (Kd.R_types HO230.out BK237.out (by decide)) (fun _ hk => hk.2) (.slice Ao18 t233.length co18)) (fun _ hk => hk.2) (.string t236)) (fun _ h_ => h_.1))) hb); replace HO235 := zM (Kd.R_below (by (with_reducible repeat (first | apply Kd.R_alloc | apply Kd.R_drewN | apply Kd.R_drew)); exact (Kd.R_mono (Kd.R_far (p := ⟨gb237, 1, none⟩) (Kd.R_far (p := ⟨gb237, 0, none⟩) (Kd.R_types HO235.out BK237.out (by decide)) (fun _ hk => hk.2) (.slice Ao18 t233.length co18)) (fun _ hk => hk.2) (.string t236)) (fun _ h_ => h_.1))) hb); replace BK237 := zM (bb hb (blk_put (blk_put BK237.out 0 _ rfl) 1 _ rfl)); replace HB := zM (below_step (by repeat first | refine zS ?_ GE237.out | exact HB.out | apply zA | apply zN | apply zD) hb); (try clear hb); (try clear hb2); (try clear hk); (try clear hi)))
        repeat (go_quiet (first | (go_at_call 7; (with_reducible refine (backseatref03_Same.calls k _ _ t227 _ _ t233 true _ ?side1 ?side2 ?side3 ?side4 A20.out).mono ?_); (case side1 => refine (Kd.R_reads' (e := 9) (base := w.heap.size) (ok := fun k_ => (True ∧ some k_ ≠ (.slice Ao18 t233.length co18 : Value).ownBlock)) (n := t227.length) (c := co25) ?_).2.2; exact (by (with_reducible repeat (first | apply Kd.R_alloc | apply Kd.R_drewN | apply Kd.R_drew)); exact (Kd.R_mono (Kd.R_far (p := ⟨gb237, 1, none⟩) (Kd.R_far (p := ⟨gb237, 0, none⟩) (Kd.R_types HO230.out BK237.out (by decide)) (fun _ hk => hk.2) (.slice Ao18 t233.length co18)) (fun _ hk => hk.2) (.string t236)) (fun _ h_ => h_.1)))); (case side2 => exact (Kd.R_reads' HO230.out).2.1); (case side3 => refine (Kd.R_reads' (e := 9) (base := w.heap.size) (ok := fun k_ => (True ∧ some k_ ≠ (.slice Ao25 t227.length co25 : Value).ownBlock)) (n := t233.length) (c := co18) ?_).2.2; exact (by (with_reducible repeat (first | apply Kd.R_alloc | apply Kd.R_drewN | apply Kd.R_drew)); exact (Kd.R_mono (Kd.R_far (p := ⟨gb237, 1, none⟩) (Kd.R_far (p := ⟨gb237, 0, none⟩) (Kd.R_types HO235.out BK237.out (by decide)) (fun _ hk => hk.2) (.slice Ao18 t233.length co18)) (fun _ hk => hk.2) (.string t236)) (fun _ h_ => h_.1)))); (case side4 => exact (Kd.R_reads' HO235.out).2.1); rintro e w' ⟨rfl, ⟨nd, rfl⟩⟩; (try first | exact ⟨rfl, _, World.drewN_drewN _ _ _⟩ | exact ⟨rfl, _, Eq.trans (World.drewN_drewN _ _ _) (congrArg (World.drewN _) (Nat.add_assoc _ _ _))⟩)) | (go_at_call 8; (with_reducible refine (backseatlaw03_alive.calls  t239 _ A23.out).mono ?_); rintro e w26 ⟨rfl, hb⟩; replace HO230 := zM (Kd.R_below (by (with_reducible repeat (first | apply Kd.R_alloc | apply Kd.R_drewN | apply Kd.R_drew)); exact (Kd.R_mono (Kd.R_far (p := ⟨gb237, 1, none⟩) (Kd.R_far (p := ⟨gb237, 0, none⟩) (Kd.R_types HO230.out BK237.out (by decide)) (fun _ hk => hk.2) (.slice Ao18 t233.length co18)) (fun _ hk => hk.2) (.string t236)) (fun _ h_ => h_.1))) hb); replace HO235 := zM (Kd.R_below (by (with_reducible repeat (first | apply Kd.R_alloc | apply Kd.R_drewN | apply Kd.R_drew)); exact (Kd.R_mono (Kd.R_far (p := ⟨gb237, 1, none⟩) (Kd.R_far (p := ⟨gb237, 0, none⟩) (Kd.R_types HO235.out BK237.out (by decide)) (fun _ hk => hk.2) (.slice Ao18 t233.length co18)) (fun _ hk => hk.2) (.string t236)) (fun _ h_ => h_.1))) hb); replace BK237 := zM (bb hb (blk_put (blk_put BK237.out 0 _ rfl) 1 _ rfl)); replace HB := zM (below_step (by repeat first | refine zS ?_ GE237.out | exact HB.out | apply zA | apply zN | apply zD) hb); (try clear hb); (try clear hb2); (try clear hk); (try clear hi))); try go_wp2_with (first | (go_at_call 7; (with_reducible refine (backseatref03_Same.calls k _ _ t227 _ _ t233 true _ ?side1 ?side2 ?side3 ?side4 A20.out).mono ?_); (case side1 => refine (Kd.R_reads' (e := 9) (base := w.heap.size) (ok := fun k_ => (True ∧ some k_ ≠ (.slice Ao18 t233.length co18 : Value).ownBlock)) (n := t227.length) (c := co25) ?_).2.2; exact (by (with_reducible repeat (first | apply Kd.R_alloc | apply Kd.R_drewN | apply Kd.R_drew)); exact (Kd.R_mono (Kd.R_far (p := ⟨gb237, 1, none⟩) (Kd.R_far (p := ⟨gb237, 0, none⟩) (Kd.R_types HO230.out BK237.out (by decide)) (fun _ hk => hk.2) (.slice Ao18 t233.length co18)) (fun _ hk => hk.2) (.string t236)) (fun _ h_ => h_.1)))); (case side2 => exact (Kd.R_reads' HO230.out).2.1); (case side3 => refine (Kd.R_reads' (e := 9) (base := w.heap.size) (ok := fun k_ => (True ∧ some k_ ≠ (.slice Ao25 t227.length co25 : Value).ownBlock)) (n := t233.length) (c := co18) ?_).2.2; exact (by (with_reducible repeat (first | apply Kd.R_alloc | apply Kd.R_drewN | apply Kd.R_drew)); exact (Kd.R_mono (Kd.R_far (p := ⟨gb237, 1, none⟩) (Kd.R_far (p := ⟨gb237, 0, none⟩) (Kd.R_types HO235.out BK237.out (by decide)) (fun _ hk => hk.2) (.slice Ao18 t233.length co18)) (fun _ hk => hk.2) (.string t236)) (fun _ h_ => h_.1)))); (case side4 => exact (Kd.R_reads' HO235.out).2.1); rintro e w' ⟨rfl, ⟨nd, rfl⟩⟩; (try first | exact ⟨rfl, _, World.drewN_drewN _ _ _⟩ | exact ⟨rfl, _, Eq.trans (World.drewN_drewN _ _ _) (congrArg (World.drewN _) (Nat.add_assoc _ _ _))⟩)) | (go_at_call 8; (with_reducible refine (backseatlaw03_alive.calls  t239 _ A23.out).mono ?_); rintro e w26 ⟨rfl, hb⟩; replace HO230 := zM (Kd.R_below (by (with_reducible repeat (first | apply Kd.R_alloc | apply Kd.R_drewN | apply Kd.R_drew)); exact (Kd.R_mono (Kd.R_far (p := ⟨gb237, 1, none⟩) (Kd.R_far (p := ⟨gb237, 0, none⟩) (Kd.R_types HO230.out BK237.out (by decide)) (fun _ hk => hk.2) (.slice Ao18 t233.length co18)) (fun _ hk => hk.2) (.string t236)) (fun _ h_ => h_.1))) hb); replace HO235 := zM (Kd.R_below (by (with_reducible repeat (first | apply Kd.R_alloc | apply Kd.R_drewN | apply Kd.R_drew)); exact (Kd.R_mono (Kd.R_far (p := ⟨gb237, 1, none⟩) (Kd.R_far (p := ⟨gb237, 0, none⟩) (Kd.R_types HO235.out BK237.out (by decide)) (fun _ hk => hk.2) (.slice Ao18 t233.length co18)) (fun _ hk => hk.2) (.string t236)) (fun _ h_ => h_.1))) hb); replace BK237 := zM (bb hb (blk_put (blk_put BK237.out 0 _ rfl) 1 _ rfl)); replace HB := zM (below_step (by repeat first | refine zS ?_ GE237.out | exact HB.out | apply zA | apply zN | apply zD) hb); (try clear hb); (try clear hb2); (try clear hk); (try clear hi))))
        go_meet
        case rel => exact ⟨_, (!t239), (by first | rfl | (simp; done) | (simp [*]; done)), H', ⟨by first | omega | exact Nat.le_refl _⟩, ⟨by (with_reducible repeat (first | apply Kd.R_alloc | apply Kd.R_drewN | apply Kd.R_drew)); exact Kd.R_mono HO235.out (fun _ hk => trivial)⟩, ⟨by (with_reducible repeat (first | refine blk_drewN ?_ _ | refine blk_drew ?_ | refine blk_alloc ?_ _)); exact BK237.out⟩, ⟨by repeat first | refine zS ?_ GE237.out | exact HB.out | apply zA | apply zN | apply zD⟩⟩
       ·rw [if_neg c22] at H
        have c22b0 : (t228.toList == t236.toList) = false := beq_eq_false_iff_ne.mpr c22
        have c22b1 : (t228.toList != t236.toList) = true := bne_iff_ne.mpr c22
        (first | rw [c22b0] | (simp only [i64_w, i32_w]; rw [c22b0]) | skip)
        have H' := zM H
        clear H
        have hcz27_0 : w17.cell? ⟨gb237, 0, none⟩ = some (.slice none 0 0) := (blk_cell BK237.out 0).trans rfl
        have hcz27_1 : w17.cell? ⟨gb237, 1, none⟩ = some (.string (⟨#[]⟩ : ByteArray)) := (blk_cell BK237.out 1).trans rfl
        have hfz27_0 := blk_frozen BK237.out 0
        have hfz27_1 := blk_frozen BK237.out 1
        obtain ⟨Ao28, co28, eo28⟩ := Kd.R_slice HO230.out
        subst eo28
        go_wp2_with (first | (go_at_call 7; (with_reducible refine (backseatref03_Same.calls k _ _ t227 _ _ t233 true _ ?side1 ?side2 ?side3 ?side4 A20.out).mono ?_); (case side1 => refine (Kd.R_reads' (e := 9) (base := w.heap.size) (ok := fun k_ => (True ∧ some k_ ≠ (.slice Ao18 t233.length co18 : Value).ownBlock)) (n := t227.length) (c := co28) ?_).2.2; exact (by (with_reducible repeat (first | apply Kd.R_alloc | apply Kd.R_drewN | apply Kd.R_drew)); exact (Kd.R_mono (Kd.R_far (p := ⟨gb237, 1, none⟩) (Kd.R_far (p := ⟨gb237, 0, none⟩) (Kd.R_types HO230.out BK237.out (by decide)) (fun _ hk => hk.2) (.slice Ao18 t233.length co18)) (fun _ hk => hk.2) (.string t236)) (fun _ h_ => h_.1)))); (case side2 => exact (Kd.R_reads' HO230.out).2.1); (case side3 => refine (Kd.R_reads' (e := 9) (base := w.heap.size) (ok := fun k_ => (True ∧ some k_ ≠ (.slice Ao28 t227.length co28 : Value).ownBlock)) (n := t233.length) (c := co18) ?_).2.2; exact (by (with_reducible repeat (first | apply Kd.R_alloc | apply Kd.R_drewN | apply Kd.R_drew)); exact (Kd.R_mono (Kd.R_far (p := ⟨gb237, 1, none⟩) (Kd.R_far (p := ⟨gb237, 0, none⟩) (Kd.R_types HO235.out BK237.out (by decide)) (fun _ hk => hk.2) (.slice Ao18 t233.length co18)) (fun _ hk => hk.2) (.string t236)) (fun _ h_ => h_.1)))); (case side4 => exact (Kd.R_reads' HO235.out).2.1); rintro e w' ⟨rfl, ⟨nd, rfl⟩⟩; (try first | exact ⟨rfl, _, World.drewN_drewN _ _ _⟩ | exact ⟨rfl, _, Eq.trans (World.drewN_drewN _ _ _) (congrArg (World.drewN _) (Nat.add_assoc _ _ _))⟩)))
        repeat (go_quiet (first | (go_at_call 7; (with_reducible refine (backseatref03_Same.calls k _ _ t227 _ _ t233 true _ ?side1 ?side2 ?side3 ?side4 A20.out).mono ?_); (case side1 => refine (Kd.R_reads' (e := 9) (base := w.heap.size) (ok := fun k_ => (True ∧ some k_ ≠ (.slice Ao18 t233.length co18 : Value).ownBlock)) (n := t227.length) (c := co28) ?_).2.2; exact (by (with_reducible repeat (first | apply Kd.R_alloc | apply Kd.R_drewN | apply Kd.R_drew)); exact (Kd.R_mono (Kd.R_far (p := ⟨gb237, 1, none⟩) (Kd.R_far (p := ⟨gb237, 0, none⟩) (Kd.R_types HO230.out BK237.out (by decide)) (fun _ hk => hk.2) (.slice Ao18 t233.length co18)) (fun _ hk => hk.2) (.string t236)) (fun _ h_ => h_.1)))); (case side2 => exact (Kd.R_reads' HO230.out).2.1); (case side3 => refine (Kd.R_reads' (e := 9) (base := w.heap.size) (ok := fun k_ => (True ∧ some k_ ≠ (.slice Ao28 t227.length co28 : Value).ownBlock)) (n := t233.length) (c := co18) ?_).2.2; exact (by (with_reducible repeat (first | apply Kd.R_alloc | apply Kd.R_drewN | apply Kd.R_drew)); exact (Kd.R_mono (Kd.R_far (p := ⟨gb237, 1, none⟩) (Kd.R_far (p := ⟨gb237, 0, none⟩) (Kd.R_types HO235.out BK237.out (by decide)) (fun _ hk => hk.2) (.slice Ao18 t233.length co18)) (fun _ hk => hk.2) (.string t236)) (fun _ h_ => h_.1)))); (case side4 => exact (Kd.R_reads' HO235.out).2.1); rintro e w' ⟨rfl, ⟨nd, rfl⟩⟩; (try first | exact ⟨rfl, _, World.drewN_drewN _ _ _⟩ | exact ⟨rfl, _, Eq.trans (World.drewN_drewN _ _ _) (congrArg (World.drewN _) (Nat.add_assoc _ _ _))⟩))); try go_wp2_with (first | (go_at_call 7; (with_reducible refine (backseatref03_Same.calls k _ _ t227 _ _ t233 true _ ?side1 ?side2 ?side3 ?side4 A20.out).mono ?_); (case side1 => refine (Kd.R_reads' (e := 9) (base := w.heap.size) (ok := fun k_ => (True ∧ some k_ ≠ (.slice Ao18 t233.length co18 : Value).ownBlock)) (n := t227.length) (c := co28) ?_).2.2; exact (by (with_reducible repeat (first | apply Kd.R_alloc | apply Kd.R_drewN | apply Kd.R_drew)); exact (Kd.R_mono (Kd.R_far (p := ⟨gb237, 1, none⟩) (Kd.R_far (p := ⟨gb237, 0, none⟩) (Kd.R_types HO230.out BK237.out (by decide)) (fun _ hk => hk.2) (.slice Ao18 t233.length co18)) (fun _ hk => hk.2) (.string t236)) (fun _ h_ => h_.1)))); (case side2 => exact (Kd.R_reads' HO230.out).2.1); (case side3 => refine (Kd.R_reads' (e := 9) (base := w.heap.size) (ok := fun k_ => (True ∧ some k_ ≠ (.slice Ao28 t227.length co28 : Value).ownBlock)) (n := t233.length) (c := co18) ?_).2.2; exact (by (with_reducible repeat (first | apply Kd.R_alloc | apply Kd.R_drewN | apply Kd.R_drew)); exact (Kd.R_mono (Kd.R_far (p := ⟨gb237, 1, none⟩) (Kd.R_far (p := ⟨gb237, 0, none⟩) (Kd.R_types HO235.out BK237.out (by decide)) (fun _ hk => hk.2) (.slice Ao18 t233.length co18)) (fun _ hk => hk.2) (.string t236)) (fun _ h_ => h_.1)))); (case side4 => exact (Kd.R_reads' HO235.out).2.1); rintro e w' ⟨rfl, ⟨nd, rfl⟩⟩; (try first | exact ⟨rfl, _, World.drewN_drewN _ _ _⟩ | exact ⟨rfl, _, Eq.trans (World.drewN_drewN _ _ _) (congrArg (World.drewN _) (Nat.add_assoc _ _ _))⟩))))
        go_meet
        case rel => exact ⟨_, (true), (by first | rfl | (simp; done) | (simp [*]; done)), H', ⟨by first | omega | exact Nat.le_refl _⟩, ⟨by (with_reducible repeat (first | apply Kd.R_alloc | apply Kd.R_drewN | apply Kd.R_drew)); exact Kd.R_mono (Kd.R_far (p := ⟨gb237, 1, none⟩) (Kd.R_far (p := ⟨gb237, 0, none⟩) (Kd.R_types HO235.out BK237.out (by decide)) (fun _ hk => hk.2) (.slice Ao18 t233.length co18)) (fun _ hk => hk.2) (.string t236)) (fun _ hk => trivial)⟩, ⟨by exact (blk_put (blk_put BK237.out 0 _ rfl) 1 _ rfl)⟩, ⟨by repeat first | refine zS ?_ GE237.out | exact HB.out | apply zA | apply zN | apply zD⟩⟩
      ·replace c21 := Bool.eq_false_iff.mpr c21
       subst c21
       have H1 : (backseatlaw03_KeysTake.j0 k (a2.extract 0 ((ji7) : Int).toNat) t231 t232 true) = some r := by rw [if_neg (show ¬ (false = true) by decide)] at H; exact H
       clear H
       have H := H1
       clear H1
       have H' := zM H
       clear H
       have hcz29_0 : w17.cell? ⟨gb237, 0, none⟩ = some (.slice none 0 0) := (blk_cell BK237.out 0).trans rfl
       have hcz29_1 : w17.cell? ⟨gb237, 1, none⟩ = some (.string (⟨#[]⟩ : ByteArray)) := (blk_cell BK237.out 1).trans rfl
       have hfz29_0 := blk_frozen BK237.out 0
       have hfz29_1 := blk_frozen BK237.out 1
       obtain ⟨Ao30, co30, eo30⟩ := Kd.R_slice HO230.out
       subst eo30
       go_wp2_with (first | (go_at_call 7; (with_reducible refine (backseatref03_Same.calls k _ _ t227 _ _ t233 false _ ?side1 ?side2 ?side3 ?side4 A20.out).mono ?_); (case side1 => refine (Kd.R_reads' (e := 9) (base := w.heap.size) (ok := fun k_ => (True ∧ some k_ ≠ (.slice Ao18 t233.length co18 : Value).ownBlock)) (n := t227.length) (c := co30) ?_).2.2; exact (by (with_reducible repeat (first | apply Kd.R_alloc | apply Kd.R_drewN | apply Kd.R_drew)); exact (Kd.R_mono (Kd.R_far (p := ⟨gb237, 1, none⟩) (Kd.R_far (p := ⟨gb237, 0, none⟩) (Kd.R_types HO230.out BK237.out (by decide)) (fun _ hk => hk.2) (.slice Ao18 t233.length co18)) (fun _ hk => hk.2) (.string t236)) (fun _ h_ => h_.1)))); (case side2 => exact (Kd.R_reads' HO230.out).2.1); (case side3 => refine (Kd.R_reads' (e := 9) (base := w.heap.size) (ok := fun k_ => (True ∧ some k_ ≠ (.slice Ao30 t227.length co30 : Value).ownBlock)) (n := t233.length) (c := co18) ?_).2.2; exact (by (with_reducible repeat (first | apply Kd.R_alloc | apply Kd.R_drewN | apply Kd.R_drew)); exact (Kd.R_mono (Kd.R_far (p := ⟨gb237, 1, none⟩) (Kd.R_far (p := ⟨gb237, 0, none⟩) (Kd.R_types HO235.out BK237.out (by decide)) (fun _ hk => hk.2) (.slice Ao18 t233.length co18)) (fun _ hk => hk.2) (.string t236)) (fun _ h_ => h_.1)))); (case side4 => exact (Kd.R_reads' HO235.out).2.1); rintro e w' ⟨rfl, ⟨nd, rfl⟩⟩; (try first | exact ⟨rfl, _, World.drewN_drewN _ _ _⟩ | exact ⟨rfl, _, Eq.trans (World.drewN_drewN _ _ _) (congrArg (World.drewN _) (Nat.add_assoc _ _ _))⟩)))
       repeat (go_quiet (first | (go_at_call 7; (with_reducible refine (backseatref03_Same.calls k _ _ t227 _ _ t233 false _ ?side1 ?side2 ?side3 ?side4 A20.out).mono ?_); (case side1 => refine (Kd.R_reads' (e := 9) (base := w.heap.size) (ok := fun k_ => (True ∧ some k_ ≠ (.slice Ao18 t233.length co18 : Value).ownBlock)) (n := t227.length) (c := co30) ?_).2.2; exact (by (with_reducible repeat (first | apply Kd.R_alloc | apply Kd.R_drewN | apply Kd.R_drew)); exact (Kd.R_mono (Kd.R_far (p := ⟨gb237, 1, none⟩) (Kd.R_far (p := ⟨gb237, 0, none⟩) (Kd.R_types HO230.out BK237.out (by decide)) (fun _ hk => hk.2) (.slice Ao18 t233.length co18)) (fun _ hk => hk.2) (.string t236)) (fun _ h_ => h_.1)))); (case side2 => exact (Kd.R_reads' HO230.out).2.1); (case side3 => refine (Kd.R_reads' (e := 9) (base := w.heap.size) (ok := fun k_ => (True ∧ some k_ ≠ (.slice Ao30 t227.length co30 : Value).ownBlock)) (n := t233.length) (c := co18) ?_).2.2; exact (by (with_reducible repeat (first | apply Kd.R_alloc | apply Kd.R_drewN | apply Kd.R_drew)); exact (Kd.R_mono (Kd.R_far (p := ⟨gb237, 1, none⟩) (Kd.R_far (p := ⟨gb237, 0, none⟩) (Kd.R_types HO235.out BK237.out (by decide)) (fun _ hk => hk.2) (.slice Ao18 t233.length co18)) (fun _ hk => hk.2) (.string t236)) (fun _ h_ => h_.1)))); (case side4 => exact (Kd.R_reads' HO235.out).2.1); rintro e w' ⟨rfl, ⟨nd, rfl⟩⟩; (try first | exact ⟨rfl, _, World.drewN_drewN _ _ _⟩ | exact ⟨rfl, _, Eq.trans (World.drewN_drewN _ _ _) (congrArg (World.drewN _) (Nat.add_assoc _ _ _))⟩))); try go_wp2_with (first | (go_at_call 7; (with_reducible refine (backseatref03_Same.calls k _ _ t227 _ _ t233 false _ ?side1 ?side2 ?side3 ?side4 A20.out).mono ?_); (case side1 => refine (Kd.R_reads' (e := 9) (base := w.heap.size) (ok := fun k_ => (True ∧ some k_ ≠ (.slice Ao18 t233.length co18 : Value).ownBlock)) (n := t227.length) (c := co30) ?_).2.2; exact (by (with_reducible repeat (first | apply Kd.R_alloc | apply Kd.R_drewN | apply Kd.R_drew)); exact (Kd.R_mono (Kd.R_far (p := ⟨gb237, 1, none⟩) (Kd.R_far (p := ⟨gb237, 0, none⟩) (Kd.R_types HO230.out BK237.out (by decide)) (fun _ hk => hk.2) (.slice Ao18 t233.length co18)) (fun _ hk => hk.2) (.string t236)) (fun _ h_ => h_.1)))); (case side2 => exact (Kd.R_reads' HO230.out).2.1); (case side3 => refine (Kd.R_reads' (e := 9) (base := w.heap.size) (ok := fun k_ => (True ∧ some k_ ≠ (.slice Ao30 t227.length co30 : Value).ownBlock)) (n := t233.length) (c := co18) ?_).2.2; exact (by (with_reducible repeat (first | apply Kd.R_alloc | apply Kd.R_drewN | apply Kd.R_drew)); exact (Kd.R_mono (Kd.R_far (p := ⟨gb237, 1, none⟩) (Kd.R_far (p := ⟨gb237, 0, none⟩) (Kd.R_types HO235.out BK237.out (by decide)) (fun _ hk => hk.2) (.slice Ao18 t233.length co18)) (fun _ hk => hk.2) (.string t236)) (fun _ h_ => h_.1)))); (case side4 => exact (Kd.R_reads' HO235.out).2.1); rintro e w' ⟨rfl, ⟨nd, rfl⟩⟩; (try first | exact ⟨rfl, _, World.drewN_drewN _ _ _⟩ | exact ⟨rfl, _, Eq.trans (World.drewN_drewN _ _ _) (congrArg (World.drewN _) (Nat.add_assoc _ _ _))⟩))))
       go_meet
       case rel => exact ⟨_, (true), (by first | rfl | (simp; done) | (simp [*]; done)), H', ⟨by first | omega | exact Nat.le_refl _⟩, ⟨by (with_reducible repeat (first | apply Kd.R_alloc | apply Kd.R_drewN | apply Kd.R_drew)); exact Kd.R_mono (Kd.R_far (p := ⟨gb237, 1, none⟩) (Kd.R_far (p := ⟨gb237, 0, none⟩) (Kd.R_types HO235.out BK237.out (by decide)) (fun _ hk => hk.2) (.slice Ao18 t233.length co18)) (fun _ hk => hk.2) (.string t236)) (fun _ hk => trivial)⟩, ⟨by exact (blk_put (blk_put BK237.out 0 _ rfl) 1 _ rfl)⟩, ⟨by repeat first | refine zS ?_ GE237.out | exact HB.out | apply zA | apply zN | apply zD⟩⟩
     case rest =>
      clear HC13
      (try clear c2); (try clear p2); (try clear c4); (try clear c5); (try clear c5b0); (try clear c5b1); (try clear c6); (try clear c6b0); (try clear c6b1); (try clear c8); (try clear c8b0); (try clear c8b1); (try clear c9); (try clear c9b0); (try clear c9b1); (try clear c21); (try clear c22); (try clear c22b0); (try clear c22b1); (try clear hcz19_0); (try clear hcz19_1); (try clear hcz24_0); (try clear hcz24_1); (try clear hcz27_0); (try clear hcz27_1); (try clear hcz29_0); (try clear hcz29_1); (try clear hfz19_0); (try clear hfz19_1); (try clear hfz24_0); (try clear hfz24_1); (try clear hfz27_0); (try clear hfz27_1); (try clear hfz29_0); (try clear hfz29_1)
      obtain ⟨kq, x51_12, rfl, HA, HJ12, HO_238000, BK237, HB⟩ := hcut
      cases kq with
      | zero => exact absurd HA.out (by simp [backseatlaw03_KeysTake.j0])
      | succ kj12 =>
       have H := HA.out
       clear HA
       simp only [backseatlaw03_KeysTake.j0] at H
       by_cases c31 : x51_12 = true
       ·subst c31
        have H1 : (some false) = some r := by rw [if_pos rfl] at H; exact H
        clear H
        have H := H1
        clear H1
        obtain rfl := Option.some.inj H
        go_wp2
        repeat (go_quiet (fail); try go_wp2)
        go_ret
        exact ⟨by first | rfl | (simp [errW_none, errW_some] <;> rfl) | (simp only [← hji4, ← hji7]; first | rfl | (simp [errW_none, errW_some] <;> rfl)) | (simp [*, errW_none, errW_some] <;> rfl), by repeat first | refine zS ?_ GE237.out | exact HB.out | apply zA | apply zN | apply zD⟩
       ·replace c31 := Bool.eq_false_iff.mpr c31
        subst c31
        have H1 : ((backseatref03_Bytes.f kj12 (a2.extract 0 ((ji7) : Int).toNat)).bind fun t240 => (if t240.toList = ([] : List UInt8) then (if t232 = 1 then (some (t231.toList == ([] : List UInt8))) else (some false)) else (if t232 = 0 then (some (t231.toList == t240.toList)) else (some false)))) = some r := by rw [if_neg (show ¬ (false = true) by decide)] at H; exact H
        clear H
        have H := H1
        clear H1
        replace H := Option.bind_eq_some_iff.mp H
        obtain ⟨t240, A320, H⟩ := H
        replace H : (if t240.toList = ([] : List UInt8) then (if t232 = 1 then (some (t231.toList == ([] : List UInt8))) else (some false)) else (if t232 = 0 then (some (t231.toList == t240.toList)) else (some false))) = some r := H
        have A32 := zM A320
        clear A320
        by_cases c33 : t240.toList = ([] : List UInt8)
        ·rw [if_pos c33] at H
         have c33b0 : (t240.toList == ([] : List UInt8)) = true := beq_iff_eq.mpr c33
         have c33b1 : (t240.toList != ([] : List UInt8)) = false := bne_eq_false_iff_eq.mpr c33
         clear c33
         by_cases c34 : t232 = 1
         ·rw [if_pos c34] at H
          have c34b0 : (t232 == 1) = true := beq_iff_eq.mpr c34
          have c34b1 : (t232 != 1) = false := bne_eq_false_iff_eq.mpr c34
          clear c34
          obtain rfl := Option.some.inj H
          go_wp2_with (first | (go_at_call 11; (with_reducible refine (backseatref03_Bytes.calls kj12 (a2.extract 0 ((ji7) : Int).toNat) t240 _ A32.out).mono ?_); rintro e w35 ⟨rfl, hb⟩; replace HO_238000 := zM (Kd.R_below (by (with_reducible repeat (first | apply Kd.R_alloc | apply Kd.R_drewN | apply Kd.R_drew)); exact HO_238000.out) hb); replace BK237 := zM (bb hb BK237.out); replace HB := zM (below_step (by repeat first | refine zS ?_ GE237.out | exact HB.out | apply zA | apply zN | apply zD) hb); (try clear hb); (try clear hb2); (try clear hk); (try clear hi)))
          repeat (go_quiet (first | (go_at_call 11; (with_reducible refine (backseatref03_Bytes.calls kj12 (a2.extract 0 ((ji7) : Int).toNat) t240 _ A32.out).mono ?_); rintro e w35 ⟨rfl, hb⟩; replace HO_238000 := zM (Kd.R_below (by (with_reducible repeat (first | apply Kd.R_alloc | apply Kd.R_drewN | apply Kd.R_drew)); exact HO_238000.out) hb); replace BK237 := zM (bb hb BK237.out); replace HB := zM (below_step (by repeat first | refine zS ?_ GE237.out | exact HB.out | apply zA | apply zN | apply zD) hb); (try clear hb); (try clear hb2); (try clear hk); (try clear hi))); try go_wp2_with (first | (go_at_call 11; (with_reducible refine (backseatref03_Bytes.calls kj12 (a2.extract 0 ((ji7) : Int).toNat) t240 _ A32.out).mono ?_); rintro e w35 ⟨rfl, hb⟩; replace HO_238000 := zM (Kd.R_below (by (with_reducible repeat (first | apply Kd.R_alloc | apply Kd.R_drewN | apply Kd.R_drew)); exact HO_238000.out) hb); replace BK237 := zM (bb hb BK237.out); replace HB := zM (below_step (by repeat first | refine zS ?_ GE237.out | exact HB.out | apply zA | apply zN | apply zD) hb); (try clear hb); (try clear hb2); (try clear hk); (try clear hi))))
          go_ret
          exact ⟨by first | rfl | (simp [errW_none, errW_some] <;> rfl) | (simp only [← hji4, ← hji7]; first | rfl | (simp [errW_none, errW_some] <;> rfl)) | (simp [*, errW_none, errW_some] <;> rfl), by repeat first | refine zS ?_ GE237.out | exact HB.out | apply zA | apply zN | apply zD⟩
         ·rw [if_neg c34] at H
          have c34b0 : (t232 == 1) = false := beq_eq_false_iff_ne.mpr c34
          have c34b1 : (t232 != 1) = true := bne_iff_ne.mpr c34
          obtain rfl := Option.some.inj H
          go_wp2_with (first | (go_at_call 11; (with_reducible refine (backseatref03_Bytes.calls kj12 (a2.extract 0 ((ji7) : Int).toNat) t240 _ A32.out).mono ?_); rintro e w36 ⟨rfl, hb⟩; replace HO_238000 := zM (Kd.R_below (by (with_reducible repeat (first | apply Kd.R_alloc | apply Kd.R_drewN | apply Kd.R_drew)); exact HO_238000.out) hb); replace BK237 := zM (bb hb BK237.out); replace HB := zM (below_step (by repeat first | refine zS ?_ GE237.out | exact HB.out | apply zA | apply zN | apply zD) hb); (try clear hb); (try clear hb2); (try clear hk); (try clear hi)))
          repeat (go_quiet (first | (go_at_call 11; (with_reducible refine (backseatref03_Bytes.calls kj12 (a2.extract 0 ((ji7) : Int).toNat) t240 _ A32.out).mono ?_); rintro e w36 ⟨rfl, hb⟩; replace HO_238000 := zM (Kd.R_below (by (with_reducible repeat (first | apply Kd.R_alloc | apply Kd.R_drewN | apply Kd.R_drew)); exact HO_238000.out) hb); replace BK237 := zM (bb hb BK237.out); replace HB := zM (below_step (by repeat first | refine zS ?_ GE237.out | exact HB.out | apply zA | apply zN | apply zD) hb); (try clear hb); (try clear hb2); (try clear hk); (try clear hi))); try go_wp2_with (first | (go_at_call 11; (with_reducible refine (backseatref03_Bytes.calls kj12 (a2.extract 0 ((ji7) : Int).toNat) t240 _ A32.out).mono ?_); rintro e w36 ⟨rfl, hb⟩; replace HO_238000 := zM (Kd.R_below (by (with_reducible repeat (first | apply Kd.R_alloc | apply Kd.R_drewN | apply Kd.R_drew)); exact HO_238000.out) hb); replace BK237 := zM (bb hb BK237.out); replace HB := zM (below_step (by repeat first | refine zS ?_ GE237.out | exact HB.out | apply zA | apply zN | apply zD) hb); (try clear hb); (try clear hb2); (try clear hk); (try clear hi))))
          go_ret
          exact ⟨by first | rfl | (simp [errW_none, errW_some] <;> rfl) | (simp only [← hji4, ← hji7]; first | rfl | (simp [errW_none, errW_some] <;> rfl)) | (simp [*, errW_none, errW_some] <;> rfl), by repeat first | refine zS ?_ GE237.out | exact HB.out | apply zA | apply zN | apply zD⟩
        ·rw [if_neg c33] at H
         have c33b0 : (t240.toList == ([] : List UInt8)) = false := beq_eq_false_iff_ne.mpr c33
         have c33b1 : (t240.toList != ([] : List UInt8)) = true := bne_iff_ne.mpr c33
         by_cases c37 : t232 = 0
         ·rw [if_pos c37] at H
          have c37b0 : (t232 == 0) = true := beq_iff_eq.mpr c37
          have c37b1 : (t232 != 0) = false := bne_eq_false_iff_eq.mpr c37
          clear c37
          obtain rfl := Option.some.inj H
          go_wp2_with (first | (go_at_call 11; (with_reducible refine (backseatref03_Bytes.calls kj12 (a2.extract 0 ((ji7) : Int).toNat) t240 _ A32.out).mono ?_); rintro e w38 ⟨rfl, hb⟩; replace HO_238000 := zM (Kd.R_below (by (with_reducible repeat (first | apply Kd.R_alloc | apply Kd.R_drewN | apply Kd.R_drew)); exact HO_238000.out) hb); replace BK237 := zM (bb hb BK237.out); replace HB := zM (below_step (by repeat first | refine zS ?_ GE237.out | exact HB.out | apply zA | apply zN | apply zD) hb); (try clear hb); (try clear hb2); (try clear hk); (try clear hi)))
          repeat (go_quiet (first | (go_at_call 11; (with_reducible refine (backseatref03_Bytes.calls kj12 (a2.extract 0 ((ji7) : Int).toNat) t240 _ A32.out).mono ?_); rintro e w38 ⟨rfl, hb⟩; replace HO_238000 := zM (Kd.R_below (by (with_reducible repeat (first | apply Kd.R_alloc | apply Kd.R_drewN | apply Kd.R_drew)); exact HO_238000.out) hb); replace BK237 := zM (bb hb BK237.out); replace HB := zM (below_step (by repeat first | refine zS ?_ GE237.out | exact HB.out | apply zA | apply zN | apply zD) hb); (try clear hb); (try clear hb2); (try clear hk); (try clear hi))); try go_wp2_with (first | (go_at_call 11; (with_reducible refine (backseatref03_Bytes.calls kj12 (a2.extract 0 ((ji7) : Int).toNat) t240 _ A32.out).mono ?_); rintro e w38 ⟨rfl, hb⟩; replace HO_238000 := zM (Kd.R_below (by (with_reducible repeat (first | apply Kd.R_alloc | apply Kd.R_drewN | apply Kd.R_drew)); exact HO_238000.out) hb); replace BK237 := zM (bb hb BK237.out); replace HB := zM (below_step (by repeat first | refine zS ?_ GE237.out | exact HB.out | apply zA | apply zN | apply zD) hb); (try clear hb); (try clear hb2); (try clear hk); (try clear hi))))
          go_ret
          exact ⟨by first | rfl | (simp [errW_none, errW_some] <;> rfl) | (simp only [← hji4, ← hji7]; first | rfl | (simp [errW_none, errW_some] <;> rfl)) | (simp [*, errW_none, errW_some] <;> rfl), by repeat first | refine zS ?_ GE237.out | exact HB.out | apply zA | apply zN | apply zD⟩
         ·rw [if_neg c37] at H
          have c37b0 : (t232 == 0) = false := beq_eq_false_iff_ne.mpr c37
          have c37b1 : (t232 != 0) = true := bne_iff_ne.mpr c37
          obtain rfl := Option.some.inj H
          go_wp2_with (first | (go_at_call 11; (with_reducible refine (backseatref03_Bytes.calls kj12 (a2.extract 0 ((ji7) : Int).toNat) t240 _ A32.out).mono ?_); rintro e w39 ⟨rfl, hb⟩; replace HO_238000 := zM (Kd.R_below (by (with_reducible repeat (first | apply Kd.R_alloc | apply Kd.R_drewN | apply Kd.R_drew)); exact HO_238000.out) hb); replace BK237 := zM (bb hb BK237.out); replace HB := zM (below_step (by repeat first | refine zS ?_ GE237.out | exact HB.out | apply zA | apply zN | apply zD) hb); (try clear hb); (try clear hb2); (try clear hk); (try clear hi)))
          repeat (go_quiet (first | (go_at_call 11; (with_reducible refine (backseatref03_Bytes.calls kj12 (a2.extract 0 ((ji7) : Int).toNat) t240 _ A32.out).mono ?_); rintro e w39 ⟨rfl, hb⟩; replace HO_238000 := zM (Kd.R_below (by (with_reducible repeat (first | apply Kd.R_alloc | apply Kd.R_drewN | apply Kd.R_drew)); exact HO_238000.out) hb); replace BK237 := zM (bb hb BK237.out); replace HB := zM (below_step (by repeat first | refine zS ?_ GE237.out | exact HB.out | apply zA | apply zN | apply zD) hb); (try clear hb); (try clear hb2); (try clear hk); (try clear hi))); try go_wp2_with (first | (go_at_call 11; (with_reducible refine (backseatref03_Bytes.calls kj12 (a2.extract 0 ((ji7) : Int).toNat) t240 _ A32.out).mono ?_); rintro e w39 ⟨rfl, hb⟩; replace HO_238000 := zM (Kd.R_below (by (with_reducible repeat (first | apply Kd.R_alloc | apply Kd.R_drewN | apply Kd.R_drew)); exact HO_238000.out) hb); replace BK237 := zM (bb hb BK237.out); replace HB := zM (below_step (by repeat first | refine zS ?_ GE237.out | exact HB.out | apply zA | apply zN | apply zD) hb); (try clear hb); (try clear hb2); (try clear hk); (try clear hi))))
          go_ret
          exact ⟨by first | rfl | (simp [errW_none, errW_some] <;> rfl) | (simp only [← hji4, ← hji7]; first | rfl | (simp [errW_none, errW_some] <;> rfl)) | (simp [*, errW_none, errW_some] <;> rfl), by repeat first | refine zS ?_ GE237.out | exact HB.out | apply zA | apply zN | apply zD⟩
    ·rw [if_neg c9] at H
     exact absurd H (by simp)
   ·rw [if_neg c8] at H
    exact absurd H (by simp)
  ·rw [if_neg c6] at H
   exact absurd H (by simp)
 ·rw [if_neg c5] at H
  exact absurd H (by simp)
/-- THE ONE PURE STATEMENT of backseatlaw03_KeysTake: yours. -/
def backseatlaw03_KeysTake.Pure : Prop := ∀ (a0 : ByteArray) (a1 : Bool) (a2 : ByteArray), a0.size ≤ 140737488351232 → a2.size ≤ 140737488351232 → ∃ k, backseatlaw03_KeysTake.f k a0 a1 a2 = some true
end Go.Proofs.YtbnpcnpdeinacaaDoor.P
