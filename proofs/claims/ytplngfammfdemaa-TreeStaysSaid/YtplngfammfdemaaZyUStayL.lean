-- Copies of the texts YtplngfammfdemaaUStay, YtplngfammfdemaaUStayL with what this claim does not reach left out (prune.py, a program of this project).
import Derived.Test.YtplngfammfdemaaZyMS7
section
namespace Go.Proofs.Ytplngfammfdemaa
open Go.RowKit Go.Proofs.YtplngfammfdemaaW.PrintWords Go.Proofs.YtplngfammfdemaaW.PrintLast Go.Proofs.YtplngfammfdemaaW.PrintMore Q
set_option linter.unusedVariables false
set_option linter.unusedSimpArgs false
/-- An answer: a tree and a number. -/
def RetT (W w' : World) (e : Ending) (t : S31) (n : Int) : Prop := ∃ A5 c5, e = .returned (.tuple #[.agg #[.int .i64 t.f0, .int .i64 t.f1, .int .i64 t.f2, .slice A5 t.f3.length c5], .int .i64 n]) ∧ t.f3.length ≤ c5 ∧ Kd.C k31 w' A5 t.f3.length t.f3 ∧ Below W.heap.size W w'
/-- A function of a tree, and what it answers. -/
abbrev CallT (f : FuncId) (t : S31) (l : List Value) (r : S31) (n : Int) : Prop := ∀ (W : World) (A : Option Addr) (c : Nat), Kd.C k31 W A t.f3.length t.f3 → t.f3.length ≤ c → Calls Try.prog f (Value.agg #[.int .i64 t.f0, .int .i64 t.f1, .int .i64 t.f2, .slice A t.f3.length c] :: l).toArray W fun e w' => RetT W w' e r n
/-- The tree may be, of a size. -/
abbrev RightC (t : S31) (w h : Int) : Prop := ∀ (W : World) (A : Option Addr) (c : Nat), Kd.C k31 W A t.f3.length t.f3 → t.f3.length ≤ c → Calls Try.prog 19 #[.agg #[.int .i64 t.f0, .int .i64 t.f1, .int .i64 t.f2, .slice A t.f3.length c], .int .i64 w, .int .i64 h] W fun e w' => e = .returned (.bool true) ∧ Below W.heap.size W w'
/-- It is told to be the same as itself. -/
abbrev SameC (t : S31) : Prop := ∀ (W : World) (A : Option Addr) (c : Nat) (A' : Option Addr) (c' : Nat), Kd.C k31 W A t.f3.length t.f3 → t.f3.length ≤ c → Kd.C k31 W A' t.f3.length t.f3 → t.f3.length ≤ c' → Calls Try.prog 16 #[.agg #[.int .i64 t.f0, .int .i64 t.f1, .int .i64 t.f2, .slice A t.f3.length c], .agg #[.int .i64 t.f0, .int .i64 t.f1, .int .i64 t.f2, .slice A' t.f3.length c']] W fun e w' => e = .returned (.bool true) ∧ Below W.heap.size W w'
set_option maxHeartbeats 16000000 in
set_option maxRecDepth 100000 in
theorem stay_walk (t kt ft on st x : S31) (ke fe se rc w h pane kind fresh w2 h2 : Int) (hrc : rc ≤ 60)
    (hcount : ∀ (W : World) (A : Option Addr) (c : Nat), Kd.C k31 W A t.f3.length t.f3 → t.f3.length ≤ c → Calls Try.prog 27 #[.agg #[.int .i64 t.f0, .int .i64 t.f1, .int .i64 t.f2, .slice A t.f3.length c], .int .i64 60] W fun e w' => e = .returned (.int .i64 rc) ∧ Below W.heap.size W w')
    (halive : ∀ (W : World), Calls Try.prog 28 #[] W fun e w' => e = .returned (.bool true) ∧ Below W.heap.size W w')
    (hrt : RightC t w h) (hkill : CallT 39 t [.int .i64 w, .int .i64 h, .int .i64 pane] kt ke) (hrk : ke = 0 → RightC kt w h)
    (hfit : CallT 40 t [.int .i64 w, .int .i64 h, .int .i64 w2, .int .i64 h2] ft fe) (hrf : fe = 0 → RightC ft w2 h2)
    (hfit2 : CallT 40 t [.int .i64 w, .int .i64 h, .int .i64 w, .int .i64 h] t 0) (hsame : SameC t)
    (hturn : CallT 41 t [.int .i64 w, .int .i64 h, .bool false] on 0) (hron : RightC on w h) (hback : CallT 41 on [.int .i64 w, .int .i64 h, .bool true] t 0)
    (hsplit : CallT 42 t [.int .i64 w, .int .i64 h, .int .i64 pane, .int .i64 kind, .int .i64 fresh] st se)
    (htail : se = 0 → RightC st w h ∧ SameC st ∧ CallT 39 st [.int .i64 w, .int .i64 h, .int .i64 fresh] t 0 ∧ CallT 43 st [.int .i64 w, .int .i64 h, .int .i64 pane, .int .i64 fresh] x 0 ∧ RightC x w h ∧ CallT 43 x [.int .i64 w, .int .i64 h, .int .i64 fresh, .int .i64 pane] st 0)
    (W : World) (AT : Option Addr) (cT : Nat) (hC : Kd.C k31 W AT t.f3.length t.f3) (hc : t.f3.length ≤ cT) :
    Calls Try.prog 10 #[.agg #[.int .i64 t.f0, .int .i64 t.f1, .int .i64 t.f2, .slice AT t.f3.length cT], .int .i64 w, .int .i64 h, .int .i64 pane, .int .i64 kind, .int .i64 fresh, .int .i64 w2, .int .i64 h2] W fun e w' => e = .returned (.bool true) ∧ Below W.heap.size W w' := by
  have hu31 := Try.underlying31
  have COUNT := Aside0.mk hcount
  have ALIVE := Aside0.mk halive
  have RTT := Aside0.mk hrt
  have KILL := Aside0.mk hkill
  have RK := Aside0.mk hrk
  have FIT := Aside0.mk hfit
  have RF := Aside0.mk hrf
  have FIT2 := Aside0.mk hfit2
  have SAMET := Aside0.mk hsame
  have TURN := Aside0.mk hturn
  have RON := Aside0.mk hron
  have BACK := Aside0.mk hback
  have SPLIT := Aside0.mk hsplit
  have TAIL := Aside0.mk htail
  have HB := Aside0.mk (Below.refl W.heap.size W)
  have CT := Aside0.mk hC
  have LT := Aside0.mk hc
  have d60 : decide (rc > 60) = false := decide_eq_false (by omega)
  have d60' : decide (60 < rc) = false := decide_eq_false (by omega)
  clear hrc hcount halive hrt hkill hrk hfit hrf hfit2 hsame hturn hron hback hsplit htail hC hc
  go_enter Try.func10, Try.ntmps10
  go_upto_region 3 with (first | ((with_reducible refine gate_dst (N := 8) rfl ?_); (try (refine gate_guard (by rfl) ?_; dsimp only)); refine box_event ?hg (N := 8) ?hd (cs := #[.int .i64 t.f0, .int .i64 t.f1, .int .i64 t.f2, .slice AT t.f3.length cT]) (t := 31) ?hr ?_; (case hd => rfl); (case hg => rfl); (case hr => first | (go_simp; done) | (go_simp; rfl)); intro gT hg wT hbox hb; have BT := Aside0.mk hbox; replace CT := Aside0.mk (Kd.C_below CT.out hb); replace HB := Aside0.mk (below_step HB.out hb); clear hb hbox hg; obtain ⟨zT0, zT1, zT2, zT3, fT0, fT1, fT2, fT3⟩ := cz4 BT.out) | (go_at_call 27; refine (COUNT.out _ AT cT CT.out LT.out).mono ?_; rintro e wC ⟨rfl, hb⟩; clear zT0 zT1 zT2 zT3 fT0 fT1 fT2 fT3; replace BT := Aside0.mk (bb hb BT.out); replace CT := Aside0.mk (Kd.C_below CT.out hb); replace HB := Aside0.mk (below_step HB.out hb); clear hb; obtain ⟨zT0, zT1, zT2, zT3, fT0, fT1, fT2, fT3⟩ := cz4 BT.out) | (go_at_call 19; (with_reducible refine (RTT.out _ AT cT CT.out LT.out).mono ?_; rintro e wR0 ⟨rfl, hb⟩; clear zT0 zT1 zT2 zT3 fT0 fT1 fT2 fT3; replace BT := Aside0.mk (bb hb BT.out); replace CT := Aside0.mk (Kd.C_below CT.out hb); replace HB := Aside0.mk (below_step HB.out hb); clear hb; obtain ⟨zT0, zT1, zT2, zT3, fT0, fT1, fT2, fT3⟩ := cz4 BT.out)))
  clear zT0 zT1 zT2 zT3 fT0 fT1 fT2 fT3
  obtain ⟨zT0, zT1, zT2, zT3, fT0, fT1, fT2, fT3⟩ := cz4 BT.out
  go_upto_region 4 with (first | ((with_reducible refine gate_callee (f := 39) rfl ?_); refine ga (some 48) rfl rfl Try.func39 (by kernel_rfl) rfl #[.agg #[.int .i64 t.f0, .int .i64 t.f1, .int .i64 t.f2, .slice AT t.f3.length cT], .int .i64 w, .int .i64 h, .int .i64 pane] rfl ?_; (refine (KILL.out _ AT cT CT.out LT.out).mono ?_); rintro e wK1 ⟨AK, cK, rfl, q1, q2, hb⟩; refine ⟨_, rfl, ?_⟩; have LK := Aside0.mk q1; have CK := Aside0.mk q2; replace BT := Aside0.mk (bb hb BT.out); replace CT := Aside0.mk (Kd.C_below CT.out hb); replace HB := Aside0.mk (below_step HB.out hb); clear zT0 zT1 zT2 zT3 fT0 fT1 fT2 fT3; clear hb q1 q2) | ((with_reducible refine gate_dst (N := 17) rfl ?_); (try (refine gate_guard (by rfl) ?_; dsimp only)); refine box_event ?hg (N := 17) ?hd (cs := #[.int .i64 0, .int .i64 0, .int .i64 0, .slice none 0 0]) (t := 31) ?hr ?_; (case hd => rfl); (case hg => rfl); (case hr => first | (go_simp; done) | (go_simp; rfl)); intro gK hg wK hbox hb; have HBX := Aside0.mk hbox; have HBB := Aside0.mk hb; have HGE := Aside0.mk (Nat.le_of_eq hg.symm : wK1.heap.size ≤ gK); clear hb hbox hg; obtain ⟨y0, y1, y2, y3, e0, e1, e2, e3⟩ := cz4 HBX.out))
  have hb := below_set (j := 3) (v := .slice AK kt.f3.length cK) (below_set (j := 2) (v := .int .i64 kt.f2) (below_set (j := 1) (v := .int .i64 kt.f1) (below_set (j := 0) (v := .int .i64 kt.f0) HBB.out HGE.out) HGE.out) HGE.out) HGE.out
  have hbk := put4 (v0 := .int .i64 kt.f0) (v1 := .int .i64 kt.f1) (v2 := .int .i64 kt.f2) (v3 := .slice AK kt.f3.length cK) HBX.out
  generalize hwK : ((((wK.setCell ⟨gK, 0, none⟩ (.int .i64 kt.f0)).setCell ⟨gK, 1, none⟩ (.int .i64 kt.f1)).setCell ⟨gK, 2, none⟩ (.int .i64 kt.f2)).setCell ⟨gK, 3, none⟩ (.slice AK kt.f3.length cK)) = wK2 at hb hbk ⊢
  replace BT := Aside0.mk (bb hb BT.out)
  replace CT := Aside0.mk (Kd.C_below CT.out hb)
  replace CK := Aside0.mk (Kd.C_below CK.out hb)
  replace HB := Aside0.mk (below_step HB.out hb)
  have BK := Aside0.mk hbk
  clear hwK hb hbk HBX HBB HGE y0 y1 y2 y3 e0 e1 e2 e3
  (try simp only [Act.put, List.setIfInBounds_toArray, List.set_cons_zero, List.set_cons_succ])
  go_cut [59] (fun v59 wc => v59 = .bool false ∧ Aside0 (wc.heap[gT]? = some (.cells #[.int .i64 t.f0, .int .i64 t.f1, .int .i64 t.f2, .slice AT t.f3.length cT] 31 (0, 0))) ∧ Aside0 (Kd.C k31 wc AT t.f3.length t.f3) ∧ Aside0 (Below W.heap.size W wc))
  case first =>
    by_cases ck : ke = 0
    · have ck0 : (ke == 0) = true := beq_iff_eq.mpr ck
      have RK1 := Aside0.mk (RK.out ck)
      clear ck
      obtain ⟨zK0, zK1, zK2, zK3, fK0, fK1, fK2, fK3⟩ := cz4 BK.out
      go_wp2_with (go_at_call 19; (with_reducible refine (RK1.out _ AK cK CK.out LK.out).mono ?_; rintro e wR1 ⟨rfl, hb⟩; clear zK0 zK1 zK2 zK3 fK0 fK1 fK2 fK3; replace BT := Aside0.mk (bb hb BT.out); replace BK := Aside0.mk (bb hb BK.out); replace CT := Aside0.mk (Kd.C_below CT.out hb); replace CK := Aside0.mk (Kd.C_below CK.out hb); replace HB := Aside0.mk (below_step HB.out hb); clear hb; obtain ⟨zK0, zK1, zK2, zK3, fK0, fK1, fK2, fK3⟩ := cz4 BK.out))
      go_meet
      case rel => exact ⟨rfl, ⟨BT.out⟩, ⟨CT.out⟩, ⟨HB.out⟩⟩
    · have ck0 : (ke == 0) = false := beq_eq_false_iff_ne.mpr ck
      clear ck
      go_wp2
      go_meet
      case rel => exact ⟨rfl, ⟨BT.out⟩, ⟨CT.out⟩, ⟨HB.out⟩⟩
  case rest =>
    clear BT BK CT CK HB
    obtain ⟨rfl, BT, CT, HB⟩ := hcut
    go_upto_region 6 with (fail)
    obtain ⟨zT0, zT1, zT2, zT3, fT0, fT1, fT2, fT3⟩ := cz4 BT.out
    go_upto_region 7 with (first | ((with_reducible refine gate_callee (f := 40) rfl ?_); refine ga (some 66) rfl rfl Try.func40 (by kernel_rfl) rfl #[.agg #[.int .i64 t.f0, .int .i64 t.f1, .int .i64 t.f2, .slice AT t.f3.length cT], .int .i64 w, .int .i64 h, .int .i64 w2, .int .i64 h2] rfl ?_; (refine (FIT.out _ AT cT CT.out LT.out).mono ?_); rintro e wF1 ⟨AF, cF, rfl, q1, q2, hb⟩; refine ⟨_, rfl, ?_⟩; have LF := Aside0.mk q1; have CF := Aside0.mk q2; replace BT := Aside0.mk (bb hb BT.out); replace CT := Aside0.mk (Kd.C_below CT.out hb); replace HB := Aside0.mk (below_step HB.out hb); clear zT0 zT1 zT2 zT3 fT0 fT1 fT2 fT3; clear hb q1 q2) | ((with_reducible refine gate_dst (N := 19) rfl ?_); (try (refine gate_guard (by rfl) ?_; dsimp only)); refine box_event ?hg (N := 19) ?hd (cs := #[.int .i64 0, .int .i64 0, .int .i64 0, .slice none 0 0]) (t := 31) ?hr ?_; (case hd => rfl); (case hg => rfl); (case hr => first | (go_simp; done) | (go_simp; rfl)); intro gF hg wF hbox hb; have HBX := Aside0.mk hbox; have HBB := Aside0.mk hb; have HGE := Aside0.mk (Nat.le_of_eq hg.symm : wF1.heap.size ≤ gF); clear hb hbox hg; obtain ⟨y0, y1, y2, y3, e0, e1, e2, e3⟩ := cz4 HBX.out))
    have hb := below_set (j := 3) (v := .slice AF ft.f3.length cF) (below_set (j := 2) (v := .int .i64 ft.f2) (below_set (j := 1) (v := .int .i64 ft.f1) (below_set (j := 0) (v := .int .i64 ft.f0) HBB.out HGE.out) HGE.out) HGE.out) HGE.out
    have hbk := put4 (v0 := .int .i64 ft.f0) (v1 := .int .i64 ft.f1) (v2 := .int .i64 ft.f2) (v3 := .slice AF ft.f3.length cF) HBX.out
    generalize hwF : ((((wF.setCell ⟨gF, 0, none⟩ (.int .i64 ft.f0)).setCell ⟨gF, 1, none⟩ (.int .i64 ft.f1)).setCell ⟨gF, 2, none⟩ (.int .i64 ft.f2)).setCell ⟨gF, 3, none⟩ (.slice AF ft.f3.length cF)) = wF2 at hb hbk ⊢
    replace BT := Aside0.mk (bb hb BT.out)
    replace CT := Aside0.mk (Kd.C_below CT.out hb)
    replace CF := Aside0.mk (Kd.C_below CF.out hb)
    replace HB := Aside0.mk (below_step HB.out hb)
    have BF := Aside0.mk hbk
    clear hwF hb hbk HBX HBB HGE y0 y1 y2 y3 e0 e1 e2 e3
    (try simp only [Act.put, List.setIfInBounds_toArray, List.set_cons_zero, List.set_cons_succ])
    go_cut [77] (fun v77 wc => v77 = .bool false ∧ Aside0 (wc.heap[gT]? = some (.cells #[.int .i64 t.f0, .int .i64 t.f1, .int .i64 t.f2, .slice AT t.f3.length cT] 31 (0, 0))) ∧ Aside0 (Kd.C k31 wc AT t.f3.length t.f3) ∧ Aside0 (Below W.heap.size W wc))
    case first =>
      by_cases ck : fe = 0
      · have ck0 : (fe == 0) = true := beq_iff_eq.mpr ck
        have RF1 := Aside0.mk (RF.out ck)
        clear ck
        obtain ⟨zF0, zF1, zF2, zF3, fF0, fF1, fF2, fF3⟩ := cz4 BF.out
        go_wp2_with (go_at_call 19; (with_reducible refine (RF1.out _ AF cF CF.out LF.out).mono ?_; rintro e wR2 ⟨rfl, hb⟩; clear zF0 zF1 zF2 zF3 fF0 fF1 fF2 fF3; replace BT := Aside0.mk (bb hb BT.out); replace BF := Aside0.mk (bb hb BF.out); replace CT := Aside0.mk (Kd.C_below CT.out hb); replace CF := Aside0.mk (Kd.C_below CF.out hb); replace HB := Aside0.mk (below_step HB.out hb); clear hb; obtain ⟨zF0, zF1, zF2, zF3, fF0, fF1, fF2, fF3⟩ := cz4 BF.out))
        go_meet
        case rel => exact ⟨rfl, ⟨BT.out⟩, ⟨CT.out⟩, ⟨HB.out⟩⟩
      · have ck0 : (fe == 0) = false := beq_eq_false_iff_ne.mpr ck
        clear ck
        go_wp2
        go_meet
        case rel => exact ⟨rfl, ⟨BT.out⟩, ⟨CT.out⟩, ⟨HB.out⟩⟩
    case rest =>
      clear BT BF CT CF HB
      obtain ⟨rfl, BT, CT, HB⟩ := hcut
      go_upto_region 9 with (fail)
      obtain ⟨zT0, zT1, zT2, zT3, fT0, fT1, fT2, fT3⟩ := cz4 BT.out
      go_upto_region 10 with (first | ((with_reducible refine gate_callee (f := 40) rfl ?_); refine ga (some 84) rfl rfl Try.func40 (by kernel_rfl) rfl #[.agg #[.int .i64 t.f0, .int .i64 t.f1, .int .i64 t.f2, .slice AT t.f3.length cT], .int .i64 w, .int .i64 h, .int .i64 w, .int .i64 h] rfl ?_; (refine (FIT2.out _ AT cT CT.out LT.out).mono ?_); rintro e wG1 ⟨AG, cG, rfl, q1, q2, hb⟩; refine ⟨_, rfl, ?_⟩; have LG := Aside0.mk q1; have CG := Aside0.mk q2; replace BT := Aside0.mk (bb hb BT.out); replace CT := Aside0.mk (Kd.C_below CT.out hb); replace HB := Aside0.mk (below_step HB.out hb); clear zT0 zT1 zT2 zT3 fT0 fT1 fT2 fT3; clear hb q1 q2) | ((with_reducible refine gate_dst (N := 21) rfl ?_); (try (refine gate_guard (by rfl) ?_; dsimp only)); refine box_event ?hg (N := 21) ?hd (cs := #[.int .i64 0, .int .i64 0, .int .i64 0, .slice none 0 0]) (t := 31) ?hr ?_; (case hd => rfl); (case hg => rfl); (case hr => first | (go_simp; done) | (go_simp; rfl)); intro gG hg wG hbox hb; have HBX := Aside0.mk hbox; have HBB := Aside0.mk hb; have HGE := Aside0.mk (Nat.le_of_eq hg.symm : wG1.heap.size ≤ gG); clear hb hbox hg; obtain ⟨y0, y1, y2, y3, e0, e1, e2, e3⟩ := cz4 HBX.out))
      have hb := below_set (j := 3) (v := .slice AG t.f3.length cG) (below_set (j := 2) (v := .int .i64 t.f2) (below_set (j := 1) (v := .int .i64 t.f1) (below_set (j := 0) (v := .int .i64 t.f0) HBB.out HGE.out) HGE.out) HGE.out) HGE.out
      have hbk := put4 (v0 := .int .i64 t.f0) (v1 := .int .i64 t.f1) (v2 := .int .i64 t.f2) (v3 := .slice AG t.f3.length cG) HBX.out
      generalize hwG : ((((wG.setCell ⟨gG, 0, none⟩ (.int .i64 t.f0)).setCell ⟨gG, 1, none⟩ (.int .i64 t.f1)).setCell ⟨gG, 2, none⟩ (.int .i64 t.f2)).setCell ⟨gG, 3, none⟩ (.slice AG t.f3.length cG)) = wG2 at hb hbk ⊢
      replace BT := Aside0.mk (bb hb BT.out)
      replace CT := Aside0.mk (Kd.C_below CT.out hb)
      replace CG := Aside0.mk (Kd.C_below CG.out hb)
      replace HB := Aside0.mk (below_step HB.out hb)
      have BG := Aside0.mk hbk
      clear hwG hb hbk HBX HBB HGE y0 y1 y2 y3 e0 e1 e2 e3
      obtain ⟨zT0, zT1, zT2, zT3, fT0, fT1, fT2, fT3⟩ := cz4 BT.out
      obtain ⟨zG0, zG1, zG2, zG3, fG0, fG1, fG2, fG3⟩ := cz4 BG.out
      go_upto_region 12 with (go_at_call 16; (with_reducible refine (SAMET.out _ AG cG AT cT CG.out LG.out CT.out LT.out).mono ?_; rintro e wS1 ⟨rfl, hb⟩; clear zT0 zT1 zT2 zT3 fT0 fT1 fT2 fT3 zG0 zG1 zG2 zG3 fG0 fG1 fG2 fG3; replace BT := Aside0.mk (bb hb BT.out); replace BG := Aside0.mk (bb hb BG.out); replace CT := Aside0.mk (Kd.C_below CT.out hb); replace CG := Aside0.mk (Kd.C_below CG.out hb); replace HB := Aside0.mk (below_step HB.out hb); clear hb; obtain ⟨zT0, zT1, zT2, zT3, fT0, fT1, fT2, fT3⟩ := cz4 BT.out; obtain ⟨zG0, zG1, zG2, zG3, fG0, fG1, fG2, fG3⟩ := cz4 BG.out))
      clear zT0 zT1 zT2 zT3 fT0 fT1 fT2 fT3 zG0 zG1 zG2 zG3 fG0 fG1 fG2 fG3
      clear BG CG
      obtain ⟨zT0, zT1, zT2, zT3, fT0, fT1, fT2, fT3⟩ := cz4 BT.out
      go_upto_region 13 with (first | ((with_reducible refine gate_callee (f := 41) rfl ?_); refine ga (some 99) rfl rfl Try.func41 (by kernel_rfl) rfl #[.agg #[.int .i64 t.f0, .int .i64 t.f1, .int .i64 t.f2, .slice AT t.f3.length cT], .int .i64 w, .int .i64 h, .bool false] rfl ?_; (refine (TURN.out _ AT cT CT.out LT.out).mono ?_); rintro e wO1 ⟨AO, cO, rfl, q1, q2, hb⟩; refine ⟨_, rfl, ?_⟩; have LO := Aside0.mk q1; have CO := Aside0.mk q2; replace BT := Aside0.mk (bb hb BT.out); replace CT := Aside0.mk (Kd.C_below CT.out hb); replace HB := Aside0.mk (below_step HB.out hb); clear zT0 zT1 zT2 zT3 fT0 fT1 fT2 fT3; clear hb q1 q2) | ((with_reducible refine gate_dst (N := 23) rfl ?_); (try (refine gate_guard (by rfl) ?_; dsimp only)); refine box_event ?hg (N := 23) ?hd (cs := #[.int .i64 0, .int .i64 0, .int .i64 0, .slice none 0 0]) (t := 31) ?hr ?_; (case hd => rfl); (case hg => rfl); (case hr => first | (go_simp; done) | (go_simp; rfl)); intro gO hg wO hbox hb; have HBX := Aside0.mk hbox; have HBB := Aside0.mk hb; have HGE := Aside0.mk (Nat.le_of_eq hg.symm : wO1.heap.size ≤ gO); clear hb hbox hg; obtain ⟨y0, y1, y2, y3, e0, e1, e2, e3⟩ := cz4 HBX.out))
      have hb := below_set (j := 3) (v := .slice AO on.f3.length cO) (below_set (j := 2) (v := .int .i64 on.f2) (below_set (j := 1) (v := .int .i64 on.f1) (below_set (j := 0) (v := .int .i64 on.f0) HBB.out HGE.out) HGE.out) HGE.out) HGE.out
      have hbk := put4 (v0 := .int .i64 on.f0) (v1 := .int .i64 on.f1) (v2 := .int .i64 on.f2) (v3 := .slice AO on.f3.length cO) HBX.out
      generalize hwO : ((((wO.setCell ⟨gO, 0, none⟩ (.int .i64 on.f0)).setCell ⟨gO, 1, none⟩ (.int .i64 on.f1)).setCell ⟨gO, 2, none⟩ (.int .i64 on.f2)).setCell ⟨gO, 3, none⟩ (.slice AO on.f3.length cO)) = wO2 at hb hbk ⊢
      replace BT := Aside0.mk (bb hb BT.out)
      replace CT := Aside0.mk (Kd.C_below CT.out hb)
      replace CO := Aside0.mk (Kd.C_below CO.out hb)
      replace HB := Aside0.mk (below_step HB.out hb)
      have BO := Aside0.mk hbk
      clear hwO hb hbk HBX HBB HGE y0 y1 y2 y3 e0 e1 e2 e3
      obtain ⟨zO0, zO1, zO2, zO3, fO0, fO1, fO2, fO3⟩ := cz4 BO.out
      go_upto_region 14 with (first | ((with_reducible refine gate_callee (f := 41) rfl ?_); refine ga (some 106) rfl rfl Try.func41 (by kernel_rfl) rfl #[.agg #[.int .i64 on.f0, .int .i64 on.f1, .int .i64 on.f2, .slice AO on.f3.length cO], .int .i64 w, .int .i64 h, .bool true] rfl ?_; (refine (BACK.out _ AO cO CO.out LO.out).mono ?_); rintro e wB1 ⟨AB, cB, rfl, q1, q2, hb⟩; refine ⟨_, rfl, ?_⟩; have LB := Aside0.mk q1; have CB := Aside0.mk q2; replace BT := Aside0.mk (bb hb BT.out); replace BO := Aside0.mk (bb hb BO.out); replace CT := Aside0.mk (Kd.C_below CT.out hb); replace CO := Aside0.mk (Kd.C_below CO.out hb); replace HB := Aside0.mk (below_step HB.out hb); clear zO0 zO1 zO2 zO3 fO0 fO1 fO2 fO3; clear hb q1 q2) | ((with_reducible refine gate_dst (N := 25) rfl ?_); (try (refine gate_guard (by rfl) ?_; dsimp only)); refine box_event ?hg (N := 25) ?hd (cs := #[.int .i64 0, .int .i64 0, .int .i64 0, .slice none 0 0]) (t := 31) ?hr ?_; (case hd => rfl); (case hg => rfl); (case hr => first | (go_simp; done) | (go_simp; rfl)); intro gB hg wB hbox hb; have HBX := Aside0.mk hbox; have HBB := Aside0.mk hb; have HGE := Aside0.mk (Nat.le_of_eq hg.symm : wB1.heap.size ≤ gB); clear hb hbox hg; obtain ⟨y0, y1, y2, y3, e0, e1, e2, e3⟩ := cz4 HBX.out))
      have hb := below_set (j := 3) (v := .slice AB t.f3.length cB) (below_set (j := 2) (v := .int .i64 t.f2) (below_set (j := 1) (v := .int .i64 t.f1) (below_set (j := 0) (v := .int .i64 t.f0) HBB.out HGE.out) HGE.out) HGE.out) HGE.out
      have hbk := put4 (v0 := .int .i64 t.f0) (v1 := .int .i64 t.f1) (v2 := .int .i64 t.f2) (v3 := .slice AB t.f3.length cB) HBX.out
      generalize hwB : ((((wB.setCell ⟨gB, 0, none⟩ (.int .i64 t.f0)).setCell ⟨gB, 1, none⟩ (.int .i64 t.f1)).setCell ⟨gB, 2, none⟩ (.int .i64 t.f2)).setCell ⟨gB, 3, none⟩ (.slice AB t.f3.length cB)) = wB2 at hb hbk ⊢
      replace BT := Aside0.mk (bb hb BT.out)
      replace BO := Aside0.mk (bb hb BO.out)
      replace CT := Aside0.mk (Kd.C_below CT.out hb)
      replace CO := Aside0.mk (Kd.C_below CO.out hb)
      replace CB := Aside0.mk (Kd.C_below CB.out hb)
      replace HB := Aside0.mk (below_step HB.out hb)
      have BB := Aside0.mk hbk
      clear hwB hb hbk HBX HBB HGE y0 y1 y2 y3 e0 e1 e2 e3
      obtain ⟨zT0, zT1, zT2, zT3, fT0, fT1, fT2, fT3⟩ := cz4 BT.out
      obtain ⟨zO0, zO1, zO2, zO3, fO0, fO1, fO2, fO3⟩ := cz4 BO.out
      obtain ⟨zB0, zB1, zB2, zB3, fB0, fB1, fB2, fB3⟩ := cz4 BB.out
      go_upto_region 16 with (first | (go_at_call 19; (with_reducible refine (RON.out _ AO cO CO.out LO.out).mono ?_; rintro e wR3 ⟨rfl, hb⟩; clear zT0 zT1 zT2 zT3 fT0 fT1 fT2 fT3 zO0 zO1 zO2 zO3 fO0 fO1 fO2 fO3 zB0 zB1 zB2 zB3 fB0 fB1 fB2 fB3; replace BT := Aside0.mk (bb hb BT.out); replace BO := Aside0.mk (bb hb BO.out); replace BB := Aside0.mk (bb hb BB.out); replace CT := Aside0.mk (Kd.C_below CT.out hb); replace CO := Aside0.mk (Kd.C_below CO.out hb); replace CB := Aside0.mk (Kd.C_below CB.out hb); replace HB := Aside0.mk (below_step HB.out hb); clear hb; obtain ⟨zT0, zT1, zT2, zT3, fT0, fT1, fT2, fT3⟩ := cz4 BT.out; obtain ⟨zO0, zO1, zO2, zO3, fO0, fO1, fO2, fO3⟩ := cz4 BO.out; obtain ⟨zB0, zB1, zB2, zB3, fB0, fB1, fB2, fB3⟩ := cz4 BB.out)) | (go_at_call 16; (with_reducible refine (SAMET.out _ AB cB AT cT CB.out LB.out CT.out LT.out).mono ?_; rintro e wS2 ⟨rfl, hb⟩; clear zT0 zT1 zT2 zT3 fT0 fT1 fT2 fT3 zO0 zO1 zO2 zO3 fO0 fO1 fO2 fO3 zB0 zB1 zB2 zB3 fB0 fB1 fB2 fB3; replace BT := Aside0.mk (bb hb BT.out); replace BO := Aside0.mk (bb hb BO.out); replace BB := Aside0.mk (bb hb BB.out); replace CT := Aside0.mk (Kd.C_below CT.out hb); replace CO := Aside0.mk (Kd.C_below CO.out hb); replace CB := Aside0.mk (Kd.C_below CB.out hb); replace HB := Aside0.mk (below_step HB.out hb); clear hb; obtain ⟨zT0, zT1, zT2, zT3, fT0, fT1, fT2, fT3⟩ := cz4 BT.out; obtain ⟨zO0, zO1, zO2, zO3, fO0, fO1, fO2, fO3⟩ := cz4 BO.out; obtain ⟨zB0, zB1, zB2, zB3, fB0, fB1, fB2, fB3⟩ := cz4 BB.out)) | (go_at_call 28; refine (ALIVE.out _).mono ?_; rintro e wA ⟨rfl, hb⟩; clear zT0 zT1 zT2 zT3 fT0 fT1 fT2 fT3 zO0 zO1 zO2 zO3 fO0 fO1 fO2 fO3 zB0 zB1 zB2 zB3 fB0 fB1 fB2 fB3; replace BT := Aside0.mk (bb hb BT.out); replace BO := Aside0.mk (bb hb BO.out); replace BB := Aside0.mk (bb hb BB.out); replace CT := Aside0.mk (Kd.C_below CT.out hb); replace CO := Aside0.mk (Kd.C_below CO.out hb); replace CB := Aside0.mk (Kd.C_below CB.out hb); replace HB := Aside0.mk (below_step HB.out hb); clear hb; obtain ⟨zT0, zT1, zT2, zT3, fT0, fT1, fT2, fT3⟩ := cz4 BT.out; obtain ⟨zO0, zO1, zO2, zO3, fO0, fO1, fO2, fO3⟩ := cz4 BO.out; obtain ⟨zB0, zB1, zB2, zB3, fB0, fB1, fB2, fB3⟩ := cz4 BB.out))
      clear zT0 zT1 zT2 zT3 fT0 fT1 fT2 fT3 zO0 zO1 zO2 zO3 fO0 fO1 fO2 fO3 zB0 zB1 zB2 zB3 fB0 fB1 fB2 fB3
      clear BO CO BB CB
      obtain ⟨zT0, zT1, zT2, zT3, fT0, fT1, fT2, fT3⟩ := cz4 BT.out
      go_upto_region 17 with (first | ((with_reducible refine gate_callee (f := 42) rfl ?_); refine ga (some 139) rfl rfl Try.func42 (by kernel_rfl) rfl #[.agg #[.int .i64 t.f0, .int .i64 t.f1, .int .i64 t.f2, .slice AT t.f3.length cT], .int .i64 w, .int .i64 h, .int .i64 pane, .int .i64 kind, .int .i64 fresh] rfl ?_; (refine (SPLIT.out _ AT cT CT.out LT.out).mono ?_); rintro e wS1 ⟨AS, cS, rfl, q1, q2, hb⟩; refine ⟨_, rfl, ?_⟩; have LS := Aside0.mk q1; have CS := Aside0.mk q2; replace BT := Aside0.mk (bb hb BT.out); replace CT := Aside0.mk (Kd.C_below CT.out hb); replace HB := Aside0.mk (below_step HB.out hb); clear zT0 zT1 zT2 zT3 fT0 fT1 fT2 fT3; clear hb q1 q2) | ((with_reducible refine gate_dst (N := 27) rfl ?_); (try (refine gate_guard (by rfl) ?_; dsimp only)); refine box_event ?hg (N := 27) ?hd (cs := #[.int .i64 0, .int .i64 0, .int .i64 0, .slice none 0 0]) (t := 31) ?hr ?_; (case hd => rfl); (case hg => rfl); (case hr => first | (go_simp; done) | (go_simp; rfl)); intro gS hg wS hbox hb; have HBX := Aside0.mk hbox; have HBB := Aside0.mk hb; have HGE := Aside0.mk (Nat.le_of_eq hg.symm : wS1.heap.size ≤ gS); clear hb hbox hg; obtain ⟨y0, y1, y2, y3, e0, e1, e2, e3⟩ := cz4 HBX.out))
      have hb := below_set (j := 3) (v := .slice AS st.f3.length cS) (below_set (j := 2) (v := .int .i64 st.f2) (below_set (j := 1) (v := .int .i64 st.f1) (below_set (j := 0) (v := .int .i64 st.f0) HBB.out HGE.out) HGE.out) HGE.out) HGE.out
      have hbk := put4 (v0 := .int .i64 st.f0) (v1 := .int .i64 st.f1) (v2 := .int .i64 st.f2) (v3 := .slice AS st.f3.length cS) HBX.out
      generalize hwS : ((((wS.setCell ⟨gS, 0, none⟩ (.int .i64 st.f0)).setCell ⟨gS, 1, none⟩ (.int .i64 st.f1)).setCell ⟨gS, 2, none⟩ (.int .i64 st.f2)).setCell ⟨gS, 3, none⟩ (.slice AS st.f3.length cS)) = wS2 at hb hbk ⊢
      replace BT := Aside0.mk (bb hb BT.out)
      replace CT := Aside0.mk (Kd.C_below CT.out hb)
      replace CS := Aside0.mk (Kd.C_below CS.out hb)
      replace HB := Aside0.mk (below_step HB.out hb)
      have BS := Aside0.mk hbk
      clear hwS hb hbk HBX HBB HGE y0 y1 y2 y3 e0 e1 e2 e3
      by_cases cs : se = 0
      · have cs0 : (se != 0) = false := by rw [cs]; rfl
        obtain ⟨hrs, hss, hks, hw1, hrx, hw2⟩ := TAIL.out cs
        have RST := Aside0.mk hrs
        have SAMES := Aside0.mk hss
        have KILL2 := Aside0.mk hks
        have SWAP1 := Aside0.mk hw1
        have RX := Aside0.mk hrx
        have SWAP2 := Aside0.mk hw2
        clear hrs hss hks hw1 hrx hw2 cs
        go_upto_region 19 with (fail)
        obtain ⟨zS0, zS1, zS2, zS3, fS0, fS1, fS2, fS3⟩ := cz4 BS.out
        go_upto_region 20 with (first | ((with_reducible refine gate_callee (f := 39) rfl ?_); refine ga (some 149) rfl rfl Try.func39 (by kernel_rfl) rfl #[.agg #[.int .i64 st.f0, .int .i64 st.f1, .int .i64 st.f2, .slice AS st.f3.length cS], .int .i64 w, .int .i64 h, .int .i64 fresh] rfl ?_; (refine (KILL2.out _ AS cS CS.out LS.out).mono ?_); rintro e wK21 ⟨AK2, cK2, rfl, q1, q2, hb⟩; refine ⟨_, rfl, ?_⟩; have LK2 := Aside0.mk q1; have CK2 := Aside0.mk q2; replace BT := Aside0.mk (bb hb BT.out); replace BS := Aside0.mk (bb hb BS.out); replace CT := Aside0.mk (Kd.C_below CT.out hb); replace CS := Aside0.mk (Kd.C_below CS.out hb); replace HB := Aside0.mk (below_step HB.out hb); clear zS0 zS1 zS2 zS3 fS0 fS1 fS2 fS3; clear hb q1 q2) | ((with_reducible refine gate_dst (N := 28) rfl ?_); (try (refine gate_guard (by rfl) ?_; dsimp only)); refine box_event ?hg (N := 28) ?hd (cs := #[.int .i64 0, .int .i64 0, .int .i64 0, .slice none 0 0]) (t := 31) ?hr ?_; (case hd => rfl); (case hg => rfl); (case hr => first | (go_simp; done) | (go_simp; rfl)); intro gK2 hg wK2 hbox hb; have HBX := Aside0.mk hbox; have HBB := Aside0.mk hb; have HGE := Aside0.mk (Nat.le_of_eq hg.symm : wK21.heap.size ≤ gK2); clear hb hbox hg; obtain ⟨y0, y1, y2, y3, e0, e1, e2, e3⟩ := cz4 HBX.out))
        have hb := below_set (j := 3) (v := .slice AK2 t.f3.length cK2) (below_set (j := 2) (v := .int .i64 t.f2) (below_set (j := 1) (v := .int .i64 t.f1) (below_set (j := 0) (v := .int .i64 t.f0) HBB.out HGE.out) HGE.out) HGE.out) HGE.out
        have hbk := put4 (v0 := .int .i64 t.f0) (v1 := .int .i64 t.f1) (v2 := .int .i64 t.f2) (v3 := .slice AK2 t.f3.length cK2) HBX.out
        generalize hwK2 : ((((wK2.setCell ⟨gK2, 0, none⟩ (.int .i64 t.f0)).setCell ⟨gK2, 1, none⟩ (.int .i64 t.f1)).setCell ⟨gK2, 2, none⟩ (.int .i64 t.f2)).setCell ⟨gK2, 3, none⟩ (.slice AK2 t.f3.length cK2)) = wK22 at hb hbk ⊢
        replace BT := Aside0.mk (bb hb BT.out)
        replace BS := Aside0.mk (bb hb BS.out)
        replace CT := Aside0.mk (Kd.C_below CT.out hb)
        replace CS := Aside0.mk (Kd.C_below CS.out hb)
        replace CK2 := Aside0.mk (Kd.C_below CK2.out hb)
        replace HB := Aside0.mk (below_step HB.out hb)
        have BK2 := Aside0.mk hbk
        clear hwK2 hb hbk HBX HBB HGE y0 y1 y2 y3 e0 e1 e2 e3
        obtain ⟨zS0, zS1, zS2, zS3, fS0, fS1, fS2, fS3⟩ := cz4 BS.out
        go_upto_region 21 with (first | ((with_reducible refine gate_callee (f := 43) rfl ?_); refine ga (some 158) rfl rfl Try.func43 (by kernel_rfl) rfl #[.agg #[.int .i64 st.f0, .int .i64 st.f1, .int .i64 st.f2, .slice AS st.f3.length cS], .int .i64 w, .int .i64 h, .int .i64 pane, .int .i64 fresh] rfl ?_; (refine (SWAP1.out _ AS cS CS.out LS.out).mono ?_); rintro e wX1 ⟨AX, cX, rfl, q1, q2, hb⟩; refine ⟨_, rfl, ?_⟩; have LX := Aside0.mk q1; have CX := Aside0.mk q2; replace BT := Aside0.mk (bb hb BT.out); replace BS := Aside0.mk (bb hb BS.out); replace BK2 := Aside0.mk (bb hb BK2.out); replace CT := Aside0.mk (Kd.C_below CT.out hb); replace CS := Aside0.mk (Kd.C_below CS.out hb); replace CK2 := Aside0.mk (Kd.C_below CK2.out hb); replace HB := Aside0.mk (below_step HB.out hb); clear zS0 zS1 zS2 zS3 fS0 fS1 fS2 fS3; clear hb q1 q2) | ((with_reducible refine gate_dst (N := 29) rfl ?_); (try (refine gate_guard (by rfl) ?_; dsimp only)); refine box_event ?hg (N := 29) ?hd (cs := #[.int .i64 0, .int .i64 0, .int .i64 0, .slice none 0 0]) (t := 31) ?hr ?_; (case hd => rfl); (case hg => rfl); (case hr => first | (go_simp; done) | (go_simp; rfl)); intro gX hg wX hbox hb; have HBX := Aside0.mk hbox; have HBB := Aside0.mk hb; have HGE := Aside0.mk (Nat.le_of_eq hg.symm : wX1.heap.size ≤ gX); clear hb hbox hg; obtain ⟨y0, y1, y2, y3, e0, e1, e2, e3⟩ := cz4 HBX.out))
        have hb := below_set (j := 3) (v := .slice AX x.f3.length cX) (below_set (j := 2) (v := .int .i64 x.f2) (below_set (j := 1) (v := .int .i64 x.f1) (below_set (j := 0) (v := .int .i64 x.f0) HBB.out HGE.out) HGE.out) HGE.out) HGE.out
        have hbk := put4 (v0 := .int .i64 x.f0) (v1 := .int .i64 x.f1) (v2 := .int .i64 x.f2) (v3 := .slice AX x.f3.length cX) HBX.out
        generalize hwX : ((((wX.setCell ⟨gX, 0, none⟩ (.int .i64 x.f0)).setCell ⟨gX, 1, none⟩ (.int .i64 x.f1)).setCell ⟨gX, 2, none⟩ (.int .i64 x.f2)).setCell ⟨gX, 3, none⟩ (.slice AX x.f3.length cX)) = wX2 at hb hbk ⊢
        replace BT := Aside0.mk (bb hb BT.out)
        replace BS := Aside0.mk (bb hb BS.out)
        replace BK2 := Aside0.mk (bb hb BK2.out)
        replace CT := Aside0.mk (Kd.C_below CT.out hb)
        replace CS := Aside0.mk (Kd.C_below CS.out hb)
        replace CK2 := Aside0.mk (Kd.C_below CK2.out hb)
        replace CX := Aside0.mk (Kd.C_below CX.out hb)
        replace HB := Aside0.mk (below_step HB.out hb)
        have BX := Aside0.mk hbk
        clear hwX hb hbk HBX HBB HGE y0 y1 y2 y3 e0 e1 e2 e3
        obtain ⟨zX0, zX1, zX2, zX3, fX0, fX1, fX2, fX3⟩ := cz4 BX.out
        go_upto_region 22 with (first | ((with_reducible refine gate_callee (f := 43) rfl ?_); refine ga (some 167) rfl rfl Try.func43 (by kernel_rfl) rfl #[.agg #[.int .i64 x.f0, .int .i64 x.f1, .int .i64 x.f2, .slice AX x.f3.length cX], .int .i64 w, .int .i64 h, .int .i64 fresh, .int .i64 pane] rfl ?_; (refine (SWAP2.out _ AX cX CX.out LX.out).mono ?_); rintro e wY1 ⟨AY, cY, rfl, q1, q2, hb⟩; refine ⟨_, rfl, ?_⟩; have LY := Aside0.mk q1; have CY := Aside0.mk q2; replace BT := Aside0.mk (bb hb BT.out); replace BS := Aside0.mk (bb hb BS.out); replace BK2 := Aside0.mk (bb hb BK2.out); replace BX := Aside0.mk (bb hb BX.out); replace CT := Aside0.mk (Kd.C_below CT.out hb); replace CS := Aside0.mk (Kd.C_below CS.out hb); replace CK2 := Aside0.mk (Kd.C_below CK2.out hb); replace CX := Aside0.mk (Kd.C_below CX.out hb); replace HB := Aside0.mk (below_step HB.out hb); clear zX0 zX1 zX2 zX3 fX0 fX1 fX2 fX3; clear hb q1 q2) | ((with_reducible refine gate_dst (N := 30) rfl ?_); (try (refine gate_guard (by rfl) ?_; dsimp only)); refine box_event ?hg (N := 30) ?hd (cs := #[.int .i64 0, .int .i64 0, .int .i64 0, .slice none 0 0]) (t := 31) ?hr ?_; (case hd => rfl); (case hg => rfl); (case hr => first | (go_simp; done) | (go_simp; rfl)); intro gY hg wY hbox hb; have HBX := Aside0.mk hbox; have HBB := Aside0.mk hb; have HGE := Aside0.mk (Nat.le_of_eq hg.symm : wY1.heap.size ≤ gY); clear hb hbox hg; obtain ⟨y0, y1, y2, y3, e0, e1, e2, e3⟩ := cz4 HBX.out))
        have hb := below_set (j := 3) (v := .slice AY st.f3.length cY) (below_set (j := 2) (v := .int .i64 st.f2) (below_set (j := 1) (v := .int .i64 st.f1) (below_set (j := 0) (v := .int .i64 st.f0) HBB.out HGE.out) HGE.out) HGE.out) HGE.out
        have hbk := put4 (v0 := .int .i64 st.f0) (v1 := .int .i64 st.f1) (v2 := .int .i64 st.f2) (v3 := .slice AY st.f3.length cY) HBX.out
        generalize hwY : ((((wY.setCell ⟨gY, 0, none⟩ (.int .i64 st.f0)).setCell ⟨gY, 1, none⟩ (.int .i64 st.f1)).setCell ⟨gY, 2, none⟩ (.int .i64 st.f2)).setCell ⟨gY, 3, none⟩ (.slice AY st.f3.length cY)) = wY2 at hb hbk ⊢
        replace BT := Aside0.mk (bb hb BT.out)
        replace BS := Aside0.mk (bb hb BS.out)
        replace BK2 := Aside0.mk (bb hb BK2.out)
        replace BX := Aside0.mk (bb hb BX.out)
        replace CT := Aside0.mk (Kd.C_below CT.out hb)
        replace CS := Aside0.mk (Kd.C_below CS.out hb)
        replace CK2 := Aside0.mk (Kd.C_below CK2.out hb)
        replace CX := Aside0.mk (Kd.C_below CX.out hb)
        replace CY := Aside0.mk (Kd.C_below CY.out hb)
        replace HB := Aside0.mk (below_step HB.out hb)
        have BY := Aside0.mk hbk
        clear hwY hb hbk HBX HBB HGE y0 y1 y2 y3 e0 e1 e2 e3
        obtain ⟨zT0, zT1, zT2, zT3, fT0, fT1, fT2, fT3⟩ := cz4 BT.out
        obtain ⟨zS0, zS1, zS2, zS3, fS0, fS1, fS2, fS3⟩ := cz4 BS.out
        obtain ⟨zK20, zK21, zK22, zK23, fK20, fK21, fK22, fK23⟩ := cz4 BK2.out
        obtain ⟨zX0, zX1, zX2, zX3, fX0, fX1, fX2, fX3⟩ := cz4 BX.out
        obtain ⟨zY0, zY1, zY2, zY3, fY0, fY1, fY2, fY3⟩ := cz4 BY.out
        go_wp2_with (first | (go_at_call 19; first | (with_reducible refine (RST.out _ AS cS CS.out LS.out).mono ?_; rintro e wR4 ⟨rfl, hb⟩; clear zT0 zT1 zT2 zT3 fT0 fT1 fT2 fT3 zS0 zS1 zS2 zS3 fS0 fS1 fS2 fS3 zK20 zK21 zK22 zK23 fK20 fK21 fK22 fK23 zX0 zX1 zX2 zX3 fX0 fX1 fX2 fX3 zY0 zY1 zY2 zY3 fY0 fY1 fY2 fY3; replace BT := Aside0.mk (bb hb BT.out); replace BS := Aside0.mk (bb hb BS.out); replace BK2 := Aside0.mk (bb hb BK2.out); replace BX := Aside0.mk (bb hb BX.out); replace BY := Aside0.mk (bb hb BY.out); replace CT := Aside0.mk (Kd.C_below CT.out hb); replace CS := Aside0.mk (Kd.C_below CS.out hb); replace CK2 := Aside0.mk (Kd.C_below CK2.out hb); replace CX := Aside0.mk (Kd.C_below CX.out hb); replace CY := Aside0.mk (Kd.C_below CY.out hb); replace HB := Aside0.mk (below_step HB.out hb); clear hb; obtain ⟨zT0, zT1, zT2, zT3, fT0, fT1, fT2, fT3⟩ := cz4 BT.out; obtain ⟨zS0, zS1, zS2, zS3, fS0, fS1, fS2, fS3⟩ := cz4 BS.out; obtain ⟨zK20, zK21, zK22, zK23, fK20, fK21, fK22, fK23⟩ := cz4 BK2.out; obtain ⟨zX0, zX1, zX2, zX3, fX0, fX1, fX2, fX3⟩ := cz4 BX.out; obtain ⟨zY0, zY1, zY2, zY3, fY0, fY1, fY2, fY3⟩ := cz4 BY.out) | (with_reducible refine (RX.out _ AX cX CX.out LX.out).mono ?_; rintro e wR5 ⟨rfl, hb⟩; clear zT0 zT1 zT2 zT3 fT0 fT1 fT2 fT3 zS0 zS1 zS2 zS3 fS0 fS1 fS2 fS3 zK20 zK21 zK22 zK23 fK20 fK21 fK22 fK23 zX0 zX1 zX2 zX3 fX0 fX1 fX2 fX3 zY0 zY1 zY2 zY3 fY0 fY1 fY2 fY3; replace BT := Aside0.mk (bb hb BT.out); replace BS := Aside0.mk (bb hb BS.out); replace BK2 := Aside0.mk (bb hb BK2.out); replace BX := Aside0.mk (bb hb BX.out); replace BY := Aside0.mk (bb hb BY.out); replace CT := Aside0.mk (Kd.C_below CT.out hb); replace CS := Aside0.mk (Kd.C_below CS.out hb); replace CK2 := Aside0.mk (Kd.C_below CK2.out hb); replace CX := Aside0.mk (Kd.C_below CX.out hb); replace CY := Aside0.mk (Kd.C_below CY.out hb); replace HB := Aside0.mk (below_step HB.out hb); clear hb; obtain ⟨zT0, zT1, zT2, zT3, fT0, fT1, fT2, fT3⟩ := cz4 BT.out; obtain ⟨zS0, zS1, zS2, zS3, fS0, fS1, fS2, fS3⟩ := cz4 BS.out; obtain ⟨zK20, zK21, zK22, zK23, fK20, fK21, fK22, fK23⟩ := cz4 BK2.out; obtain ⟨zX0, zX1, zX2, zX3, fX0, fX1, fX2, fX3⟩ := cz4 BX.out; obtain ⟨zY0, zY1, zY2, zY3, fY0, fY1, fY2, fY3⟩ := cz4 BY.out)) | (go_at_call 16; first | (with_reducible refine (SAMET.out _ AK2 cK2 AT cT CK2.out LK2.out CT.out LT.out).mono ?_; rintro e wS3 ⟨rfl, hb⟩; clear zT0 zT1 zT2 zT3 fT0 fT1 fT2 fT3 zS0 zS1 zS2 zS3 fS0 fS1 fS2 fS3 zK20 zK21 zK22 zK23 fK20 fK21 fK22 fK23 zX0 zX1 zX2 zX3 fX0 fX1 fX2 fX3 zY0 zY1 zY2 zY3 fY0 fY1 fY2 fY3; replace BT := Aside0.mk (bb hb BT.out); replace BS := Aside0.mk (bb hb BS.out); replace BK2 := Aside0.mk (bb hb BK2.out); replace BX := Aside0.mk (bb hb BX.out); replace BY := Aside0.mk (bb hb BY.out); replace CT := Aside0.mk (Kd.C_below CT.out hb); replace CS := Aside0.mk (Kd.C_below CS.out hb); replace CK2 := Aside0.mk (Kd.C_below CK2.out hb); replace CX := Aside0.mk (Kd.C_below CX.out hb); replace CY := Aside0.mk (Kd.C_below CY.out hb); replace HB := Aside0.mk (below_step HB.out hb); clear hb; obtain ⟨zT0, zT1, zT2, zT3, fT0, fT1, fT2, fT3⟩ := cz4 BT.out; obtain ⟨zS0, zS1, zS2, zS3, fS0, fS1, fS2, fS3⟩ := cz4 BS.out; obtain ⟨zK20, zK21, zK22, zK23, fK20, fK21, fK22, fK23⟩ := cz4 BK2.out; obtain ⟨zX0, zX1, zX2, zX3, fX0, fX1, fX2, fX3⟩ := cz4 BX.out; obtain ⟨zY0, zY1, zY2, zY3, fY0, fY1, fY2, fY3⟩ := cz4 BY.out) | (with_reducible refine (SAMES.out _ AY cY AS cS CY.out LY.out CS.out LS.out).mono ?_; rintro e wS4 ⟨rfl, hb⟩; clear zT0 zT1 zT2 zT3 fT0 fT1 fT2 fT3 zS0 zS1 zS2 zS3 fS0 fS1 fS2 fS3 zK20 zK21 zK22 zK23 fK20 fK21 fK22 fK23 zX0 zX1 zX2 zX3 fX0 fX1 fX2 fX3 zY0 zY1 zY2 zY3 fY0 fY1 fY2 fY3; replace BT := Aside0.mk (bb hb BT.out); replace BS := Aside0.mk (bb hb BS.out); replace BK2 := Aside0.mk (bb hb BK2.out); replace BX := Aside0.mk (bb hb BX.out); replace BY := Aside0.mk (bb hb BY.out); replace CT := Aside0.mk (Kd.C_below CT.out hb); replace CS := Aside0.mk (Kd.C_below CS.out hb); replace CK2 := Aside0.mk (Kd.C_below CK2.out hb); replace CX := Aside0.mk (Kd.C_below CX.out hb); replace CY := Aside0.mk (Kd.C_below CY.out hb); replace HB := Aside0.mk (below_step HB.out hb); clear hb; obtain ⟨zT0, zT1, zT2, zT3, fT0, fT1, fT2, fT3⟩ := cz4 BT.out; obtain ⟨zS0, zS1, zS2, zS3, fS0, fS1, fS2, fS3⟩ := cz4 BS.out; obtain ⟨zK20, zK21, zK22, zK23, fK20, fK21, fK22, fK23⟩ := cz4 BK2.out; obtain ⟨zX0, zX1, zX2, zX3, fX0, fX1, fX2, fX3⟩ := cz4 BX.out; obtain ⟨zY0, zY1, zY2, zY3, fY0, fY1, fY2, fY3⟩ := cz4 BY.out)))
        go_ret
        exact ⟨rfl, HB.out⟩
      · have cs0 : (se != 0) = true := bne_iff_ne.mpr cs
        clear cs
        go_wp2
        go_ret
        exact ⟨rfl, HB.out⟩
end Go.Proofs.Ytplngfammfdemaa
end
section
namespace Go.Proofs.Ytplngfammfdemaa
open Go.RowKit Go.Proofs.YtplngfammfdemaaW.PrintWords Go.Proofs.YtplngfammfdemaaW.PrintLast Go.Proofs.YtplngfammfdemaaW.PrintMore Q
set_option linter.unusedVariables false
set_option linter.unusedSimpArgs false
theorem retT_of {W w' : World} {e : Ending} {t : S31} {n : Int} (h : TreeErr W w' (fun k => k < W.heap.size) e t n) : RetT W w' e t n := by
  obtain ⟨v, rfl, ⟨A, c, rfl, hl, hF⟩, hb⟩ := h
  exact ⟨A, c, rfl, hl, Kd.F_now hF, hb⟩
theorem callT_of {f : FuncId} {t r : S31} {l : List Value} {n : Int} (h : ∀ (W : World) (ok : Nat → Prop) (A : Option Addr) (c : Nat), Kd.F k31 W ok A t.f3.length t.f3 → t.f3.length ≤ c → Calls Try.prog f (Value.agg #[.int .i64 t.f0, .int .i64 t.f1, .int .i64 t.f2, .slice A t.f3.length c] :: l).toArray W fun e w' => TreeErr W w' ok e r n) : CallT f t l r n :=
  fun W A c hC hc => (h W _ A c (Kd.C_F k31_heap' hC) hc).mono fun e w' h => retT_of h
theorem rightC_of {t : S31} {w h : Int} (hr : RightT t w h) : RightC t w h := by
  intro W A c hC hc
  obtain ⟨K, hK⟩ := right_yes hr
  exact tree_Right.calls K t.f0 t.f1 t.f2 A c t.f3 w h true W hC hc (hK K (Nat.le_refl _))
theorem sameC_of {t : S31} {w h : Int} (hr : RightT t w h) : SameC t := fun W A c A' c' hC hc hC' hc' =>
  backseatref11_Same.calls 400 t.f0 t.f1 t.f2 A c t.f3 t.f0 t.f1 t.f2 A' c' t.f3 true W hC hc hC' hc' (same_self hr 400 (Nat.le_refl _))
section
variable {t : S31} {w h : Int}
theorem kill_ret (hr : RightT t w h) (pane : Int) : ∃ kt ke, CallT 39 t [.int .i64 w, .int .i64 h, .int .i64 pane] kt ke ∧ (ke = 0 → RightT kt w h) := by
  by_cases hp : pane ∈ psA t
  · by_cases hl : (psA t).length = 1
    · exact ⟨z31', 8, callT_of (fun W ok A c hF hc => Kill_one hr hp hl W ok A c hF hc), fun h => by omega⟩
    · exact ⟨_, 0, callT_of (fun W ok A c hF hc => Kill_do hr hp hl W ok A c hF hc), fun _ => kill_stays hr hp hl⟩
  · exact ⟨z31', 5, callT_of (fun W ok A c hF hc => Kill_none hr hp W ok A c hF hc), fun h => by omega⟩
theorem fit_ret (hr : RightT t w h) (w2 h2 : Int) : ∃ ft fe, CallT 40 t [.int .i64 w, .int .i64 h, .int .i64 w2, .int .i64 h2] ft fe ∧ (fe = 0 → RightT ft w2 h2) := by
  by_cases hs : 1 ≤ w2 ∧ w2 ≤ 80 ∧ 1 ≤ h2 ∧ h2 ≤ 50
  · by_cases h1 : leastR R0 t 1 ≤ w2
    · by_cases hh : leastR R0 t 2 ≤ h2
      · exact ⟨_, 0, callT_of (fun W ok A c hF hc => Fit_do hr w2 h2 hs h1 hh W ok A c hF hc), fun _ => fit_stays hr hs ⟨h1, hh⟩⟩
      · exact ⟨z31', 9, callT_of (fun W ok A c hF hc => Fit_room2 hr w2 h2 hs h1 (by omega) W ok A c hF hc), fun h => by omega⟩
    · exact ⟨z31', 9, callT_of (fun W ok A c hF hc => Fit_room1 hr w2 h2 hs (by omega) W ok A c hF hc), fun h => by omega⟩
  · exact ⟨z31', 1, callT_of (fun W ok A c hF hc => Fit_size hr w2 h2 hs W ok A c hF hc), fun h => by omega⟩
theorem fit_again (hr : RightT t w h) : CallT 40 t [.int .i64 w, .int .i64 h, .int .i64 w, .int .i64 h] t 0 := by
  obtain ⟨e1, e2, e3⟩ := fit_same hr R0
  refine callT_of (fun W ok A c hF hc => ?_)
  have := Fit_do hr w h ⟨hr.w1, hr.w8, hr.h1, hr.h5⟩ e2 e3 W ok A c hF hc
  rw [e1] at this
  exact this
theorem turn_ret (hr : RightT t w h) : ∃ on, CallT 41 t [.int .i64 w, .int .i64 h, .bool false] on 0 ∧ RightT on w h ∧ CallT 41 on [.int .i64 w, .int .i64 h, .bool true] t 0 := by
  obtain ⟨hr1, _⟩ := turn_right hr false
  refine ⟨_, callT_of (fun W ok A c hF hc => Turn_do hr false W ok A c hF hc), hr1, callT_of (fun W ok A c hF hc => ?_)⟩
  have := Turn_do hr1 true W ok A c hF hc
  rw [turn_back_same hr] at this
  exact this
theorem split_ret (hr : RightT t w h) (pane kind fresh : Int) : ∃ st se x, CallT 42 t [.int .i64 w, .int .i64 h, .int .i64 pane, .int .i64 kind, .int .i64 fresh] st se ∧ (se = 0 → RightT st w h ∧ CallT 39 st [.int .i64 w, .int .i64 h, .int .i64 fresh] t 0 ∧ CallT 43 st [.int .i64 w, .int .i64 h, .int .i64 pane, .int .i64 fresh] x 0 ∧ RightT x w h ∧ CallT 43 x [.int .i64 w, .int .i64 h, .int .i64 fresh, .int .i64 pane] st 0) := by
  by_cases hk : (kind = 1 ∨ kind = 2) ∧ 1 ≤ fresh ∧ fresh ≤ 999
  · by_cases hp : pane ∈ psA t
    · by_cases hf : fresh ∈ psA t
      · exact ⟨z31', 6, z31', callT_of (fun W ok A c hF hc => Split_twice hr hk hp hf W ok A c hF hc), fun h => by omega⟩
      · by_cases h8 : (psA t).length = 8
        · exact ⟨z31', 7, z31', callT_of (fun W ok A c hF hc => Split_full hr hk hp hf h8 W ok A c hF hc), fun h => by omega⟩
        · by_cases hn : cellsR R0 t w h pane kind < 3
          · exact ⟨z31', 9, z31', callT_of (fun W ok A c hF hc => Split_room hr hk hp hf h8 hn W ok A c hF hc), fun h => by omega⟩
          · obtain ⟨s1, s2, s3⟩ := split_stays hr hk hp hf h8 hn
            have hs := callT_of (l := [.int .i64 w, .int .i64 h, .int .i64 pane, .int .i64 kind, .int .i64 fresh]) (fun W ok A c hF hc => Split_do hr hk hp hf h8 hn W ok A c hF hc)
            generalize splitR R0 t pane kind fresh (cellsR R0 t w h pane kind) = s at s1 s2 s3 hs
            obtain ⟨m1, m2⟩ := insP_mem pane fresh (psA t) hp
            have p1 : pane ∈ psA s := by rw [s2]; exact m1
            have p2 : fresh ∈ psA s := by rw [s2]; exact m2
            have hne : pane ≠ fresh := fun e => hf (by rw [← e]; exact hp)
            have hl1 : (psA s).length ≠ 1 := by
              rw [s2, insP_len pane fresh _ hr.nd hp]
              have : 1 ≤ (psA t).length := List.length_pos_of_mem hp
              omega
            obtain ⟨x1, x2⟩ := swap_right s1 p1 p2 hne
            have q1 : fresh ∈ psA (namedR R0 s (swapL (psA s) pane fresh)).1 := by rw [x2, swapL_map _ _ _ s1.nd p1 p2 hne]; exact List.mem_map.2 ⟨pane, p1, swp_a _ _⟩
            have q2 : pane ∈ psA (namedR R0 s (swapL (psA s) pane fresh)).1 := by rw [x2, swapL_map _ _ _ s1.nd p1 p2 hne]; exact List.mem_map.2 ⟨fresh, p2, swp_b _ _⟩
            have hback := swap_back_same s1 p1 p2 hne
            refine ⟨s, 0, _, hs, fun _ => ⟨s1, callT_of (fun W ok A c hF hc => ?_), callT_of (fun W ok A c hF hc => Swap_do s1 p1 p2 W ok A c hF hc), x1, callT_of (fun W ok A c hF hc => ?_)⟩⟩
            · have := Kill_do s1 p2 hl1 W ok A c hF hc
              rw [s3] at this
              exact this
            · have := Swap_do x1 q1 q2 W ok A c hF hc
              rw [hback] at this
              exact this
    · exact ⟨z31', 5, z31', callT_of (fun W ok A c hF hc => Split_none hr hk hp W ok A c hF hc), fun h => by omega⟩
  · exact ⟨z31', 1, z31', callT_of (fun W ok A c hF hc => Split_arg hr hk W ok A c hF hc), fun h => by omega⟩
end
set_option maxHeartbeats 4000000 in
set_option maxRecDepth 100000 in
theorem stay_many (t : S31) (rc w h pane kind fresh w2 h2 : Int) (hrc : rc > 60)
    (hcount : ∀ (W : World) (A : Option Addr) (c : Nat), Kd.C k31 W A t.f3.length t.f3 → t.f3.length ≤ c → Calls Try.prog 27 #[.agg #[.int .i64 t.f0, .int .i64 t.f1, .int .i64 t.f2, .slice A t.f3.length c], .int .i64 60] W fun e w' => e = .returned (.int .i64 rc) ∧ Below W.heap.size W w')
    (halive : ∀ (W : World), Calls Try.prog 28 #[] W fun e w' => e = .returned (.bool true) ∧ Below W.heap.size W w')
    (W : World) (AT : Option Addr) (cT : Nat) (hC : Kd.C k31 W AT t.f3.length t.f3) (hc : t.f3.length ≤ cT) :
    Calls Try.prog 10 #[.agg #[.int .i64 t.f0, .int .i64 t.f1, .int .i64 t.f2, .slice AT t.f3.length cT], .int .i64 w, .int .i64 h, .int .i64 pane, .int .i64 kind, .int .i64 fresh, .int .i64 w2, .int .i64 h2] W fun e w' => e = .returned (.bool true) ∧ Below W.heap.size W w' := by
  have hu31 := Try.underlying31
  have COUNT := Aside0.mk hcount
  have ALIVE := Aside0.mk halive
  have HB := Aside0.mk (Below.refl W.heap.size W)
  have CT := Aside0.mk hC
  have LT := Aside0.mk hc
  have d60 : decide (rc > 60) = true := decide_eq_true hrc
  have d60' : decide (60 < rc) = true := decide_eq_true hrc
  clear hrc hcount halive hC hc
  go_enter Try.func10, Try.ntmps10
  go_wp2_with (first | ((with_reducible refine gate_dst (N := 8) rfl ?_); (try (refine gate_guard (by rfl) ?_; dsimp only)); refine box_event ?hg (N := 8) ?hd (cs := #[.int .i64 t.f0, .int .i64 t.f1, .int .i64 t.f2, .slice AT t.f3.length cT]) (t := 31) ?hr ?_; (case hd => rfl); (case hg => rfl); (case hr => first | (go_simp; done) | (go_simp; rfl)); intro gT hg wT hbox hb; have BT := Aside0.mk hbox; replace CT := Aside0.mk (Kd.C_below CT.out hb); replace HB := Aside0.mk (below_step HB.out hb); clear hb hbox hg; obtain ⟨zT0, zT1, zT2, zT3, fT0, fT1, fT2, fT3⟩ := cz4 BT.out) | (go_at_call 27; refine (COUNT.out _ AT cT CT.out LT.out).mono ?_; rintro e wC ⟨rfl, hb⟩; replace HB := Aside0.mk (below_step HB.out hb); clear hb) | (go_at_call 28; refine (ALIVE.out _).mono ?_; rintro e wA ⟨rfl, hb⟩; replace HB := Aside0.mk (below_step HB.out hb); clear hb))
  go_ret
  exact ⟨rfl, HB.out⟩
set_option maxHeartbeats 4000000 in
set_option maxRecDepth 100000 in
theorem stay_wrong (t : S31) (rc w h pane kind fresh w2 h2 : Int) (hrc : rc ≤ 60)
    (hcount : ∀ (W : World) (A : Option Addr) (c : Nat), Kd.C k31 W A t.f3.length t.f3 → t.f3.length ≤ c → Calls Try.prog 27 #[.agg #[.int .i64 t.f0, .int .i64 t.f1, .int .i64 t.f2, .slice A t.f3.length c], .int .i64 60] W fun e w' => e = .returned (.int .i64 rc) ∧ Below W.heap.size W w')
    (halive : ∀ (W : World), Calls Try.prog 28 #[] W fun e w' => e = .returned (.bool true) ∧ Below W.heap.size W w')
    (hright : ∀ (W : World) (A : Option Addr) (c : Nat), Kd.C k31 W A t.f3.length t.f3 → t.f3.length ≤ c → Calls Try.prog 19 #[.agg #[.int .i64 t.f0, .int .i64 t.f1, .int .i64 t.f2, .slice A t.f3.length c], .int .i64 w, .int .i64 h] W fun e w' => e = .returned (.bool false) ∧ Below W.heap.size W w')
    (W : World) (AT : Option Addr) (cT : Nat) (hC : Kd.C k31 W AT t.f3.length t.f3) (hc : t.f3.length ≤ cT) :
    Calls Try.prog 10 #[.agg #[.int .i64 t.f0, .int .i64 t.f1, .int .i64 t.f2, .slice AT t.f3.length cT], .int .i64 w, .int .i64 h, .int .i64 pane, .int .i64 kind, .int .i64 fresh, .int .i64 w2, .int .i64 h2] W fun e w' => e = .returned (.bool true) ∧ Below W.heap.size W w' := by
  have hu31 := Try.underlying31
  have COUNT := Aside0.mk hcount
  have ALIVE := Aside0.mk halive
  have RIGHT := Aside0.mk hright
  have HB := Aside0.mk (Below.refl W.heap.size W)
  have CT := Aside0.mk hC
  have LT := Aside0.mk hc
  have d60 : decide (rc > 60) = false := decide_eq_false (by omega)
  have d60' : decide (60 < rc) = false := decide_eq_false (by omega)
  clear hrc hcount halive hright hC hc
  go_enter Try.func10, Try.ntmps10
  go_wp2_with (first | ((with_reducible refine gate_dst (N := 8) rfl ?_); (try (refine gate_guard (by rfl) ?_; dsimp only)); refine box_event ?hg (N := 8) ?hd (cs := #[.int .i64 t.f0, .int .i64 t.f1, .int .i64 t.f2, .slice AT t.f3.length cT]) (t := 31) ?hr ?_; (case hd => rfl); (case hg => rfl); (case hr => first | (go_simp; done) | (go_simp; rfl)); intro gT hg wT hbox hb; have BT := Aside0.mk hbox; replace CT := Aside0.mk (Kd.C_below CT.out hb); replace HB := Aside0.mk (below_step HB.out hb); clear hb hbox hg; obtain ⟨zT0, zT1, zT2, zT3, fT0, fT1, fT2, fT3⟩ := cz4 BT.out) | (go_at_call 27; refine (COUNT.out _ AT cT CT.out LT.out).mono ?_; rintro e wC ⟨rfl, hb⟩; clear zT0 zT1 zT2 zT3 fT0 fT1 fT2 fT3; replace BT := Aside0.mk (bb hb BT.out); replace CT := Aside0.mk (Kd.C_below CT.out hb); replace HB := Aside0.mk (below_step HB.out hb); clear hb; obtain ⟨zT0, zT1, zT2, zT3, fT0, fT1, fT2, fT3⟩ := cz4 BT.out) | (go_at_call 19; refine (RIGHT.out _ AT cT CT.out LT.out).mono ?_; rintro e wR ⟨rfl, hb⟩; replace HB := Aside0.mk (below_step HB.out hb); clear hb) | (go_at_call 28; refine (ALIVE.out _).mono ?_; rintro e wA ⟨rfl, hb⟩; replace HB := Aside0.mk (below_step HB.out hb); clear hb))
  go_ret
  exact ⟨rfl, HB.out⟩
/-- The law, at any input. -/
theorem treeStays_law (t : S31) (w h pane kind fresh w2 h2 : Int) (W : World) (A : Option Addr) (c : Nat) (hC : Kd.C k31 W A t.f3.length t.f3) (hc : t.f3.length ≤ c) :
    Calls Try.prog 10 #[.agg #[.int .i64 t.f0, .int .i64 t.f1, .int .i64 t.f2, .slice A t.f3.length c], .int .i64 w, .int .i64 h, .int .i64 pane, .int .i64 kind, .int .i64 fresh, .int .i64 w2, .int .i64 h2] W fun e w' => e = .returned (.bool true) ∧ Below W.heap.size W w' := by
  obtain ⟨K, r, e, r1, r2, r3⟩ := count_ends (SizeOf.sizeOf t) t (Nat.le_refl _) 60 (by omega) (by omega)
  have hcount : ∀ (W : World) (A : Option Addr) (c : Nat), Kd.C k31 W A t.f3.length t.f3 → t.f3.length ≤ c → Calls Try.prog 27 #[.agg #[.int .i64 t.f0, .int .i64 t.f1, .int .i64 t.f2, .slice A t.f3.length c], .int .i64 60] W fun e w' => e = .returned (.int .i64 r) ∧ Below W.heap.size W w' := fun W A c hC hc =>
    backseatref11_Count.calls K t.f0 t.f1 t.f2 A c t.f3 60 r W hC hc (e K (Nat.le_refl _))
  have halive : ∀ (W : World), Calls Try.prog 28 #[] W fun e w' => e = .returned (.bool true) ∧ Below W.heap.size W w' := fun W => backseatlaw11_alive.calls 30 true W (alive11 30 (Nat.le_refl _))
  by_cases hr : r > 60
  · exact stay_many t r w h pane kind fresh w2 h2 hr hcount halive W A c hC hc
  · obtain ⟨d, hd⟩ := r3 (by omega)
    obtain ⟨K2, b, hb, hright⟩ := right_told hd w h
    cases b with
    | false =>
      exact stay_wrong t r w h pane kind fresh w2 h2 (by omega) hcount halive (fun W A c hC hc => tree_Right.calls K2 t.f0 t.f1 t.f2 A c t.f3 w h false W hC hc (hb K2 (Nat.le_refl _))) W A c hC hc
    | true =>
      have hR := hright rfl
      obtain ⟨kt, ke, k1, k2⟩ := kill_ret hR pane
      obtain ⟨ft, fe, f1, f2⟩ := fit_ret hR w2 h2
      obtain ⟨on, o1, o2, o3⟩ := turn_ret hR
      obtain ⟨st, se, x, s1, s2⟩ := split_ret hR pane kind fresh
      exact stay_walk t kt ft on st x ke fe se r w h pane kind fresh w2 h2 (by omega) hcount halive (rightC_of hR) k1 (fun h => rightC_of (k2 h)) f1 (fun h => rightC_of (f2 h)) (fit_again hR) (sameC_of hR) o1 (rightC_of o2) o3 s1
        (fun h0 => ⟨rightC_of (s2 h0).1, sameC_of (s2 h0).1, (s2 h0).2.1, (s2 h0).2.2.1, rightC_of (s2 h0).2.2.2.1, (s2 h0).2.2.2.2⟩) W A c hC hc
end Go.Proofs.Ytplngfammfdemaa
end
