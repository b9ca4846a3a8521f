-- Copies of the texts YtplngfammfdemaaUKillO, YtplngfammfdemaaUFitP, YtplngfammfdemaaUColl, YtplngfammfdemaaUCat with what this claim does not reach left out (prune.py, a program of this project).
import Derived.Test.YtplngfammfdemaaZyUKill
import Derived.Test.YtplngfammfdemaaZyMS3
import Derived.Test.YtplngfammfdemaaZyUFitO
import Derived.Test.YtplngfammfdemaaZyUFit
import Derived.Test.YtplngfammfdemaaZyGShort
import Derived.Test.YtplngfammfdemaaZyGHas
import Derived.Test.YtplngfammfdemaaZyURepG
import Derived.Test.YtplngfammfdemaaZyGCont
import Derived.Test.YtplngfammfdemaaZyQx3
import Derived.Maps.AppendAt
section
namespace Go.Proofs.Ytplngfammfdemaa
open Go.RowKit Go.Proofs.YtplngfammfdemaaW.PrintWords Go.Proofs.YtplngfammfdemaaW.PrintLast Go.Proofs.YtplngfammfdemaaW.PrintMore Q
set_option linter.unusedVariables false
set_option linter.unusedSimpArgs false
set_option maxHeartbeats 8000000 in
set_option maxRecDepth 100000 in
theorem Kill_none {t : S31} {w h : Int} (hr : RightT t w h) {pane : Int} (hp : pane ∉ psA t) (W : World) (ok : Nat → Prop) (A : Option Addr) (c : Nat) (hF : Kd.F k31 W ok A t.f3.length t.f3) (hc : t.f3.length ≤ c) :
    Calls Try.prog 39 #[.agg #[.int .i64 t.f0, .int .i64 t.f1, .int .i64 t.f2, .slice A t.f3.length c], .int .i64 w, .int .i64 h, .int .i64 pane] W fun e w' => TreeErr W w' ok e z31' 5 := by
  have hu31 := Try.underlying31
  obtain ⟨KR, hK⟩ := right_yes hr
  have HR := Aside0.mk (hK KR (Nat.le_refl _))
  have HF := Aside0.mk (F_cut hF)
  have HCC := Aside0.mk hc
  have HB := Aside0.mk (Below.refl W.heap.size W)
  have HH : Aside0 (∀ (W' : World) (A : Option Addr) (c : Nat), Kd.C k31 W' A t.f3.length t.f3 → Calls Try.prog 74 #[.agg #[.int .i64 t.f0, .int .i64 t.f1, .int .i64 t.f2, .slice A t.f3.length c], .int .i64 pane] W' fun e w' => e = .returned (.bool false) ∧ Below W'.heap.size W' w') := ⟨fun W' A c hC => by
    have h := has_mk W' t A c pane hr.ok hr.w1 hr.w8 hr.h1 (by have := hr.h5; omega) (by have := hr.few; omega) hC
    unfold hasA at h
    rw [decide_eq_false hp] at h
    exact h⟩
  clear hr hK hF hc hp
  go_enter Try.func39, Try.ntmps39
  go_wp2_with (first | ((with_reducible refine gate_dst (N := 4) rfl ?_); (try (refine gate_guard (by rfl) ?_; dsimp only)); refine box_event ?hg (N := 4) ?hd (cs := #[.int .i64 t.f0, .int .i64 t.f1, .int .i64 t.f2, .slice A t.f3.length c]) (t := 31) ?hr ?_; (case hd => rfl); (case hg => rfl); (case hr => first | (go_simp; done) | (go_simp; rfl)); intro gT hg wT hbox hb; have BT := Aside0.mk hbox; have GT := Aside0.mk (by rw [hg]; exact below_size HB.out : W.heap.size ≤ gT); replace HB := Aside0.mk (below_step HB.out hb); replace HF := Aside0.mk (Kd.F_below HF.out hb); clear hb hbox hg; obtain ⟨z0, z1, z2, z3, f0, f1, f2, f3⟩ := cz4 BT.out) | ((with_reducible refine gate_dst (N := 8) rfl ?_); (try (refine gate_guard (by rfl) ?_; dsimp only)); refine box_event ?hg (N := 8) ?hd (cs := #[.int .i64 0, .int .i64 0, .int .i64 0, .slice none 0 0]) (t := 31) ?hr ?_; (case hd => rfl); (case hg => rfl); (case hr => first | (go_simp; done) | (go_simp; rfl)); intro gR hg wR hbox hb; have BR := Aside0.mk hbox; have GR := Aside0.mk (by rw [hg]; exact below_size HB.out : W.heap.size ≤ gR); have NTR := Aside0.mk (by rw [hg]; exact lt1 BT.out : gT ≠ gR); have NRT := Aside0.mk (by rw [hg]; exact gt1 BT.out : gR ≠ gT); replace BT := Aside0.mk (bb hb BT.out); replace HB := Aside0.mk (below_step HB.out hb); replace HF := Aside0.mk (Kd.F_below HF.out hb); clear hb hbox hg; clear z0 z1 z2 z3 f0 f1 f2 f3; obtain ⟨z0, z1, z2, z3, f0, f1, f2, f3⟩ := cz4 BT.out; obtain ⟨r0, r1, r2, r3, rf0, rf1, rf2, rf3⟩ := cz4 BR.out; have nTR := NTR.out; have nRT := NRT.out) | (go_at_call 19; refine (tree_Right.calls KR t.f0 t.f1 t.f2 A c t.f3 w h true _ (Kd.F_now HF.out) HCC.out HR.out).mono ?_; rintro e wA ⟨rfl, hb⟩; replace BT := Aside0.mk (bb hb BT.out); replace BR := Aside0.mk (bb hb BR.out); replace HB := Aside0.mk (below_step HB.out hb); replace HF := Aside0.mk (Kd.F_below HF.out hb); clear hb z0 z1 z2 z3 f0 f1 f2 f3 r0 r1 r2 r3 rf0 rf1 rf2 rf3; obtain ⟨z0, z1, z2, z3, f0, f1, f2, f3⟩ := cz4 BT.out; obtain ⟨r0, r1, r2, r3, rf0, rf1, rf2, rf3⟩ := cz4 BR.out) | (go_at_call 74; refine (HH.out _ A c (Kd.F_now HF.out)).mono ?_; rintro e wH ⟨rfl, hb⟩; replace BT := Aside0.mk (bb hb BT.out); replace BR := Aside0.mk (bb hb BR.out); replace HB := Aside0.mk (below_step HB.out hb); replace HF := Aside0.mk (Kd.F_below HF.out hb); clear hb z0 z1 z2 z3 f0 f1 f2 f3 r0 r1 r2 r3 rf0 rf1 rf2 rf3; obtain ⟨z0, z1, z2, z3, f0, f1, f2, f3⟩ := cz4 BT.out; obtain ⟨r0, r1, r2, r3, rf0, rf1, rf2, rf3⟩ := cz4 BR.out) | ((with_reducible refine gate_store (t := 31) (p := 8) rfl ?_); go_loud (refine store_event (t := 31) (p := 8) (v := ?vk1) (w1 := ((((wH.setCell ⟨gR, 0, none⟩ (.int .i64 0)).setCell ⟨gR, 1, none⟩ (.int .i64 0)).setCell ⟨gR, 2, none⟩ (.int .i64 0)).setCell ⟨gR, 3, none⟩ (.slice none 0 0))) ?hg ?ho ?hn ?hr ?_; (case ho => rfl); (case hg => rfl); (case hn => rfl); (case hr => first | (go_simp; done) | (go_simp; rfl)); intro w9 hw; have N1 : Aside0 (w9.heap[gR]? = some (.cells #[.int .i64 0, .int .i64 0, .int .i64 0, .slice none 0 0] 31 (0, 0))) := ⟨by rw [hw]; exact put4 BR.out⟩; have N2 : Aside0 (Below W.heap.size W w9) := ⟨by rw [hw]; exact below_set (below_set (below_set (below_set HB.out GR.out) GR.out) GR.out) GR.out⟩; clear z0 z1 z2 z3 f0 f1 f2 f3 r0 r1 r2 r3 rf0 rf1 rf2 rf3; clear hw)))
  obtain ⟨s0, s1, s2, s3, _, _, _, _⟩ := cz4 N1.out
  refine bodyPost_ret (v := .tuple #[.agg #[.int .i64 0, .int .i64 0, .int .i64 0, .slice none 0 0], .int .i64 5]) (by simp [results, Try.results39, go_sem, s0, s1, s2, s3]) rfl ?_
  exact ⟨_, rfl, zero_V _ _, N2.out⟩
set_option maxHeartbeats 8000000 in
set_option maxRecDepth 100000 in
theorem Kill_one {t : S31} {w h : Int} (hr : RightT t w h) {pane : Int} (hp : pane ∈ psA t) (hl : (psA t).length = 1) (W : World) (ok : Nat → Prop) (A : Option Addr) (c : Nat) (hF : Kd.F k31 W ok A t.f3.length t.f3) (hc : t.f3.length ≤ c) :
    Calls Try.prog 39 #[.agg #[.int .i64 t.f0, .int .i64 t.f1, .int .i64 t.f2, .slice A t.f3.length c], .int .i64 w, .int .i64 h, .int .i64 pane] W fun e w' => TreeErr W w' ok e z31' 8 := by
  have hu31 := Try.underlying31
  obtain ⟨KR, hK⟩ := right_yes hr
  have HR := Aside0.mk (hK KR (Nat.le_refl _))
  have HF := Aside0.mk (F_cut hF)
  have HCC := Aside0.mk hc
  have HB := Aside0.mk (Below.refl W.heap.size W)
  have HH : Aside0 (∀ (W' : World) (A : Option Addr) (c : Nat), Kd.C k31 W' A t.f3.length t.f3 → Calls Try.prog 74 #[.agg #[.int .i64 t.f0, .int .i64 t.f1, .int .i64 t.f2, .slice A t.f3.length c], .int .i64 pane] W' fun e w' => e = .returned (.bool true) ∧ Below W'.heap.size W' w') := ⟨fun W' A c hC => by
    have h := has_mk W' t A c pane hr.ok hr.w1 hr.w8 hr.h1 (by have := hr.h5; omega) (by have := hr.few; omega) hC
    unfold hasA at h
    rw [decide_eq_true hp] at h
    exact h⟩
  have HN : Aside0 (∀ (W' : World) (A : Option Addr) (c : Nat), Kd.C k31 W' A t.f3.length t.f3 → Calls Try.prog 75 #[.agg #[.int .i64 t.f0, .int .i64 t.f1, .int .i64 t.f2, .slice A t.f3.length c]] W' fun e w' => e = .returned (.int .i64 ((psA t).length : Int)) ∧ Below W'.heap.size W' w') := ⟨fun W' A c hC => by
    have h := count_any W' t A c (psA t).length hC _ (panes_mk _ t w h hr.ok hr.w1 hr.w8 hr.h1 (by have := hr.h5; omega) _ (Nat.le_refl _)) (by rw [ps_at hr]; have := hr.few; omega)
    rw [ps_at hr] at h
    exact h⟩
  have c9 : (((psA t).length : Int) == 1) = true := beq_iff_eq.mpr (by omega)
  clear hr hK hF hc hp hl
  go_enter Try.func39, Try.ntmps39
  go_wp2_with (first | ((with_reducible refine gate_dst (N := 4) rfl ?_); (try (refine gate_guard (by rfl) ?_; dsimp only)); refine box_event ?hg (N := 4) ?hd (cs := #[.int .i64 t.f0, .int .i64 t.f1, .int .i64 t.f2, .slice A t.f3.length c]) (t := 31) ?hr ?_; (case hd => rfl); (case hg => rfl); (case hr => first | (go_simp; done) | (go_simp; rfl)); intro gT hg wT hbox hb; have BT := Aside0.mk hbox; have GT := Aside0.mk (by rw [hg]; exact below_size HB.out : W.heap.size ≤ gT); replace HB := Aside0.mk (below_step HB.out hb); replace HF := Aside0.mk (Kd.F_below HF.out hb); clear hb hbox hg; obtain ⟨z0, z1, z2, z3, f0, f1, f2, f3⟩ := cz4 BT.out) | ((with_reducible refine gate_dst (N := 8) rfl ?_); (try (refine gate_guard (by rfl) ?_; dsimp only)); refine box_event ?hg (N := 8) ?hd (cs := #[.int .i64 0, .int .i64 0, .int .i64 0, .slice none 0 0]) (t := 31) ?hr ?_; (case hd => rfl); (case hg => rfl); (case hr => first | (go_simp; done) | (go_simp; rfl)); intro gR hg wR hbox hb; have BR := Aside0.mk hbox; have GR := Aside0.mk (by rw [hg]; exact below_size HB.out : W.heap.size ≤ gR); have NTR := Aside0.mk (by rw [hg]; exact lt1 BT.out : gT ≠ gR); have NRT := Aside0.mk (by rw [hg]; exact gt1 BT.out : gR ≠ gT); replace BT := Aside0.mk (bb hb BT.out); replace HB := Aside0.mk (below_step HB.out hb); replace HF := Aside0.mk (Kd.F_below HF.out hb); clear hb hbox hg; clear z0 z1 z2 z3 f0 f1 f2 f3; obtain ⟨z0, z1, z2, z3, f0, f1, f2, f3⟩ := cz4 BT.out; obtain ⟨r0, r1, r2, r3, rf0, rf1, rf2, rf3⟩ := cz4 BR.out; have nTR := NTR.out; have nRT := NRT.out) | (go_at_call 19; refine (tree_Right.calls KR t.f0 t.f1 t.f2 A c t.f3 w h true _ (Kd.F_now HF.out) HCC.out HR.out).mono ?_; rintro e wA ⟨rfl, hb⟩; replace BT := Aside0.mk (bb hb BT.out); replace BR := Aside0.mk (bb hb BR.out); replace HB := Aside0.mk (below_step HB.out hb); replace HF := Aside0.mk (Kd.F_below HF.out hb); clear hb z0 z1 z2 z3 f0 f1 f2 f3 r0 r1 r2 r3 rf0 rf1 rf2 rf3; obtain ⟨z0, z1, z2, z3, f0, f1, f2, f3⟩ := cz4 BT.out; obtain ⟨r0, r1, r2, r3, rf0, rf1, rf2, rf3⟩ := cz4 BR.out) | (go_at_call 74; refine (HH.out _ A c (Kd.F_now HF.out)).mono ?_; rintro e wH ⟨rfl, hb⟩; replace BT := Aside0.mk (bb hb BT.out); replace BR := Aside0.mk (bb hb BR.out); replace HB := Aside0.mk (below_step HB.out hb); replace HF := Aside0.mk (Kd.F_below HF.out hb); clear hb z0 z1 z2 z3 f0 f1 f2 f3 r0 r1 r2 r3 rf0 rf1 rf2 rf3; obtain ⟨z0, z1, z2, z3, f0, f1, f2, f3⟩ := cz4 BT.out; obtain ⟨r0, r1, r2, r3, rf0, rf1, rf2, rf3⟩ := cz4 BR.out) | (go_at_call 75; refine (HN.out _ A c (Kd.F_now HF.out)).mono ?_; rintro e wC ⟨rfl, hb⟩; replace BT := Aside0.mk (bb hb BT.out); replace BR := Aside0.mk (bb hb BR.out); replace HB := Aside0.mk (below_step HB.out hb); replace HF := Aside0.mk (Kd.F_below HF.out hb); clear hb z0 z1 z2 z3 f0 f1 f2 f3 r0 r1 r2 r3 rf0 rf1 rf2 rf3; obtain ⟨z0, z1, z2, z3, f0, f1, f2, f3⟩ := cz4 BT.out; obtain ⟨r0, r1, r2, r3, rf0, rf1, rf2, rf3⟩ := cz4 BR.out) | ((with_reducible refine gate_store (t := 31) (p := 8) rfl ?_); go_loud (refine store_event (t := 31) (p := 8) (v := ?vk2) (w1 := ((((wC.setCell ⟨gR, 0, none⟩ (.int .i64 0)).setCell ⟨gR, 1, none⟩ (.int .i64 0)).setCell ⟨gR, 2, none⟩ (.int .i64 0)).setCell ⟨gR, 3, none⟩ (.slice none 0 0))) ?hg ?ho ?hn ?hr ?_; (case ho => rfl); (case hg => rfl); (case hn => rfl); (case hr => first | (go_simp; done) | (go_simp; rfl)); intro w9 hw; have N1 : Aside0 (w9.heap[gR]? = some (.cells #[.int .i64 0, .int .i64 0, .int .i64 0, .slice none 0 0] 31 (0, 0))) := ⟨by rw [hw]; exact put4 BR.out⟩; have N2 : Aside0 (Below W.heap.size W w9) := ⟨by rw [hw]; exact below_set (below_set (below_set (below_set HB.out GR.out) GR.out) GR.out) GR.out⟩; clear z0 z1 z2 z3 f0 f1 f2 f3 r0 r1 r2 r3 rf0 rf1 rf2 rf3; clear hw)))
  obtain ⟨s0, s1, s2, s3, _, _, _, _⟩ := cz4 N1.out
  refine bodyPost_ret (v := .tuple #[.agg #[.int .i64 0, .int .i64 0, .int .i64 0, .slice none 0 0], .int .i64 8]) (by simp [results, Try.results39, go_sem, s0, s1, s2, s3]) rfl ?_
  exact ⟨_, rfl, zero_V _ _, N2.out⟩
set_option maxHeartbeats 8000000 in
set_option maxRecDepth 100000 in
theorem Kill_do {t : S31} {w h : Int} (hr : RightT t w h) {pane : Int} (hp : pane ∈ psA t) (hl : (psA t).length ≠ 1) (W : World) (ok : Nat → Prop) (A : Option Addr) (c : Nat) (hF : Kd.F k31 W ok A t.f3.length t.f3) (hc : t.f3.length ≤ c) :
    Calls Try.prog 39 #[.agg #[.int .i64 t.f0, .int .i64 t.f1, .int .i64 t.f2, .slice A t.f3.length c], .int .i64 w, .int .i64 h, .int .i64 pane] W fun e w' => TreeErr W w' ok e (killR R0 t w h pane) 0 := by
  have hu31 := Try.underlying31
  obtain ⟨KR, hK⟩ := right_yes hr
  have HR := Aside0.mk (hK KR (Nat.le_refl _))
  have HF := Aside0.mk (F_cut hF)
  have HCC := Aside0.mk hc
  have HB := Aside0.mk (Below.refl W.heap.size W)
  have HH : Aside0 (∀ (W' : World) (A : Option Addr) (c : Nat), Kd.C k31 W' A t.f3.length t.f3 → Calls Try.prog 74 #[.agg #[.int .i64 t.f0, .int .i64 t.f1, .int .i64 t.f2, .slice A t.f3.length c], .int .i64 pane] W' fun e w' => e = .returned (.bool true) ∧ Below W'.heap.size W' w') := ⟨fun W' A c hC => by
    have h := has_mk W' t A c pane hr.ok hr.w1 hr.w8 hr.h1 (by have := hr.h5; omega) (by have := hr.few; omega) hC
    unfold hasA at h
    rw [decide_eq_true hp] at h
    exact h⟩
  have HN : Aside0 (∀ (W' : World) (A : Option Addr) (c : Nat), Kd.C k31 W' A t.f3.length t.f3 → Calls Try.prog 75 #[.agg #[.int .i64 t.f0, .int .i64 t.f1, .int .i64 t.f2, .slice A t.f3.length c]] W' fun e w' => e = .returned (.int .i64 ((psA t).length : Int)) ∧ Below W'.heap.size W' w') := ⟨fun W' A c hC => by
    have h := count_any W' t A c (psA t).length hC _ (panes_mk _ t w h hr.ok hr.w1 hr.w8 hr.h1 (by have := hr.h5; omega) _ (Nat.le_refl _)) (by rw [ps_at hr]; have := hr.few; omega)
    rw [ps_at hr] at h
    exact h⟩
  have c9 : (((psA t).length : Int) == 1) = false := beq_eq_false_iff_ne.mpr (by omega)
  have HM : Aside0 (∀ (W' : World) (ok' : Nat → Prop) (A : Option Addr) (c : Nat), Kd.F k31 W' ok' A t.f3.length t.f3 → t.f3.length ≤ c → Calls Try.prog 76 #[.agg #[.int .i64 t.f0, .int .i64 t.f1, .int .i64 t.f2, .slice A t.f3.length c], .int .i64 w, .int .i64 h, .int .i64 pane] W' fun e w' => TreeOut W' w' ok' e (killR R0 t w h pane)) := ⟨fun W' ok' A c hF hc => (kill_calls _ t w h hr.ok hr.w1 hr.w8 hr.h1 (by have := hr.h5; omega) (by have := hr.few; omega) hr.nd (fun h0 => hl (by rw [psA_leaf h0]; rfl)) R0 (by have := hr.few; unfold R0; omega) pane hp W' ok' A c hF hc).mono (fun e w' h => h.out)⟩
  generalize killR R0 t w h pane = q at HM ⊢
  clear hr hK hF hc hp hl
  go_enter Try.func39, Try.ntmps39
  go_wp2_with (first | ((with_reducible refine gate_dst (N := 4) rfl ?_); (try (refine gate_guard (by rfl) ?_; dsimp only)); refine box_event ?hg (N := 4) ?hd (cs := #[.int .i64 t.f0, .int .i64 t.f1, .int .i64 t.f2, .slice A t.f3.length c]) (t := 31) ?hr ?_; (case hd => rfl); (case hg => rfl); (case hr => first | (go_simp; done) | (go_simp; rfl)); intro gT hg wT hbox hb; have BT := Aside0.mk hbox; have GT := Aside0.mk (by rw [hg]; exact below_size HB.out : W.heap.size ≤ gT); replace HB := Aside0.mk (below_step HB.out hb); replace HF := Aside0.mk (Kd.F_below HF.out hb); clear hb hbox hg; obtain ⟨z0, z1, z2, z3, f0, f1, f2, f3⟩ := cz4 BT.out) | ((with_reducible refine gate_dst (N := 8) rfl ?_); (try (refine gate_guard (by rfl) ?_; dsimp only)); refine box_event ?hg (N := 8) ?hd (cs := #[.int .i64 0, .int .i64 0, .int .i64 0, .slice none 0 0]) (t := 31) ?hr ?_; (case hd => rfl); (case hg => rfl); (case hr => first | (go_simp; done) | (go_simp; rfl)); intro gR hg wR hbox hb; have BR := Aside0.mk hbox; have GR := Aside0.mk (by rw [hg]; exact below_size HB.out : W.heap.size ≤ gR); have NTR := Aside0.mk (by rw [hg]; exact lt1 BT.out : gT ≠ gR); have NRT := Aside0.mk (by rw [hg]; exact gt1 BT.out : gR ≠ gT); replace BT := Aside0.mk (bb hb BT.out); replace HB := Aside0.mk (below_step HB.out hb); replace HF := Aside0.mk (Kd.F_below HF.out hb); clear hb hbox hg; clear z0 z1 z2 z3 f0 f1 f2 f3; obtain ⟨z0, z1, z2, z3, f0, f1, f2, f3⟩ := cz4 BT.out; obtain ⟨r0, r1, r2, r3, rf0, rf1, rf2, rf3⟩ := cz4 BR.out; have nTR := NTR.out; have nRT := NRT.out) | (go_at_call 19; refine (tree_Right.calls KR t.f0 t.f1 t.f2 A c t.f3 w h true _ (Kd.F_now HF.out) HCC.out HR.out).mono ?_; rintro e wA ⟨rfl, hb⟩; replace BT := Aside0.mk (bb hb BT.out); replace BR := Aside0.mk (bb hb BR.out); replace HB := Aside0.mk (below_step HB.out hb); replace HF := Aside0.mk (Kd.F_below HF.out hb); clear hb z0 z1 z2 z3 f0 f1 f2 f3 r0 r1 r2 r3 rf0 rf1 rf2 rf3; obtain ⟨z0, z1, z2, z3, f0, f1, f2, f3⟩ := cz4 BT.out; obtain ⟨r0, r1, r2, r3, rf0, rf1, rf2, rf3⟩ := cz4 BR.out) | (go_at_call 74; refine (HH.out _ A c (Kd.F_now HF.out)).mono ?_; rintro e wH ⟨rfl, hb⟩; replace BT := Aside0.mk (bb hb BT.out); replace BR := Aside0.mk (bb hb BR.out); replace HB := Aside0.mk (below_step HB.out hb); replace HF := Aside0.mk (Kd.F_below HF.out hb); clear hb z0 z1 z2 z3 f0 f1 f2 f3 r0 r1 r2 r3 rf0 rf1 rf2 rf3; obtain ⟨z0, z1, z2, z3, f0, f1, f2, f3⟩ := cz4 BT.out; obtain ⟨r0, r1, r2, r3, rf0, rf1, rf2, rf3⟩ := cz4 BR.out) | (go_at_call 75; refine (HN.out _ A c (Kd.F_now HF.out)).mono ?_; rintro e wC ⟨rfl, hb⟩; replace BT := Aside0.mk (bb hb BT.out); replace BR := Aside0.mk (bb hb BR.out); replace HB := Aside0.mk (below_step HB.out hb); replace HF := Aside0.mk (Kd.F_below HF.out hb); clear hb z0 z1 z2 z3 f0 f1 f2 f3 r0 r1 r2 r3 rf0 rf1 rf2 rf3; obtain ⟨z0, z1, z2, z3, f0, f1, f2, f3⟩ := cz4 BT.out; obtain ⟨r0, r1, r2, r3, rf0, rf1, rf2, rf3⟩ := cz4 BR.out) | (go_at_call 76; refine (HM.out _ _ A c HF.out HCC.out).mono ?_; rintro e wK ho; obtain ⟨v, rfl, ⟨A5, c5, rfl, h5, hF5⟩, hb⟩ := ho; have HWL := Aside0.mk (HB.out.size); have HRL := Aside0.mk (blk_lt BR.out); have HF5 := Aside0.mk (F_cut hF5); have H5 := Aside0.mk h5; replace HF := HF; replace BT := Aside0.mk (bb hb BT.out); replace BR := Aside0.mk (bb hb BR.out); replace HB := Aside0.mk (below_step HB.out hb); replace HF := Aside0.mk (Kd.F_below HF.out hb); clear hb z0 z1 z2 z3 f0 f1 f2 f3 r0 r1 r2 r3 rf0 rf1 rf2 rf3; obtain ⟨z0, z1, z2, z3, f0, f1, f2, f3⟩ := cz4 BT.out; obtain ⟨r0, r1, r2, r3, rf0, rf1, rf2, rf3⟩ := cz4 BR.out; clear h5 hF5) | ((with_reducible refine gate_store (t := 31) (p := 8) rfl ?_); go_loud (refine store_event (t := 31) (p := 8) (v := ?vk3) (w1 := ((((wK.setCell ⟨gR, 0, none⟩ (.int .i64 q.f0)).setCell ⟨gR, 1, none⟩ (.int .i64 q.f1)).setCell ⟨gR, 2, none⟩ (.int .i64 q.f2)).setCell ⟨gR, 3, none⟩ (.slice A5 q.f3.length c5))) ?hg ?ho ?hn ?hr ?_; (case ho => rfl); (case hg => rfl); (case hn => rfl); (case hr => first | (go_simp; done) | (go_simp; rfl)); intro w9 hw; have N1 : Aside0 (w9.heap[gR]? = some (.cells #[.int .i64 q.f0, .int .i64 q.f1, .int .i64 q.f2, .slice A5 q.f3.length c5] 31 (0, 0))) := ⟨by rw [hw]; exact put4 BR.out⟩; have N2 : Aside0 (Below W.heap.size W w9) := ⟨by rw [hw]; exact below_set (below_set (below_set (below_set HB.out GR.out) GR.out) GR.out) GR.out⟩; have N3 := Aside0.mk (show Kd.F k31 w9 _ A5 _ _ from by rw [hw]; exact F_far4 HF5.out (fun k hk => by have := GR.out; have := HRL.out; have := hk.1; have := hk.2; show k ≠ gR; omega)); clear z0 z1 z2 z3 f0 f1 f2 f3 r0 r1 r2 r3 rf0 rf1 rf2 rf3; clear hw)))
  obtain ⟨s0, s1, s2, s3, _, _, _, _⟩ := cz4 N1.out
  refine bodyPost_ret (v := .tuple #[.agg #[.int .i64 q.f0, .int .i64 q.f1, .int .i64 q.f2, .slice A5 q.f3.length c5], .int .i64 0]) (by simp [results, Try.results39, go_sem, s0, s1, s2, s3]) rfl ?_
  exact ⟨_, rfl, ⟨A5, c5, rfl, H5.out, Kd.F_mono N3.out (fun k hk => hk.1.elim (fun h => .inl h.1) (fun h => .inr (Nat.le_trans HWL.out h)))⟩, N2.out⟩
end Go.Proofs.Ytplngfammfdemaa
end
section
namespace Go.Proofs.Ytplngfammfdemaa
open Go.RowKit Go.Proofs.YtplngfammfdemaaW.PrintWords Go.Proofs.YtplngfammfdemaaW.PrintLast Go.Proofs.YtplngfammfdemaaW.PrintMore Q
set_option linter.unusedVariables false
set_option linter.unusedSimpArgs false
set_option maxHeartbeats 8000000 in
set_option maxRecDepth 100000 in
theorem Fit_room1 {t : S31} {w h : Int} (hr : RightT t w h) (w2 h2 : Int) (hs : 1 ≤ w2 ∧ w2 ≤ 80 ∧ 1 ≤ h2 ∧ h2 ≤ 50) (hl : leastR R0 t 1 > w2) (W : World) (ok : Nat → Prop) (A : Option Addr) (c : Nat) (hF : Kd.F k31 W ok A t.f3.length t.f3) (hc : t.f3.length ≤ c) :
    Calls Try.prog 40 #[.agg #[.int .i64 t.f0, .int .i64 t.f1, .int .i64 t.f2, .slice A t.f3.length c], .int .i64 w, .int .i64 h, .int .i64 w2, .int .i64 h2] W fun e w' => TreeErr W w' ok e z31' 9 := by
  have hu31 := Try.underlying31
  obtain ⟨KR, hK⟩ := right_yes hr
  have HR := Aside0.mk (hK KR (Nat.le_refl _))
  have HF := Aside0.mk (F_cut hF)
  have HCC := Aside0.mk hc
  have HB := Aside0.mk (Below.refl W.heap.size W)
  have HS : Aside0 (tree_size.f w2 h2 = some true) := ⟨by rw [size_f, decide_eq_true hs]⟩
  have hmk := hr.ok
  have hh5 := hr.h5
  have hfew := hr.few
  have HL : Aside0 (∀ (way : Int), way = 1 ∨ way = 2 → ∀ (W' : World) (A : Option Addr) (c : Nat), Kd.C k31 W' A t.f3.length t.f3 → t.f3.length ≤ c → Calls Try.prog 77 #[.agg #[.int .i64 t.f0, .int .i64 t.f1, .int .i64 t.f2, .slice A t.f3.length c], .int .i64 way] W' fun e w' => e = .returned (.int .i64 (leastR R0 t way)) ∧ Below W'.heap.size W' w') := ⟨fun way hw W' A c hC hc => least_calls _ t w h hmk hr.w1 hr.w8 hr.h1 (by omega) R0 (by unfold R0; omega) way hw W' A c hC hc⟩
  have g1 : decide (leastR R0 t 1 > w2) = true := decide_eq_true hl
  have g1' : decide (w2 < leastR R0 t 1) = true := decide_eq_true hl
  clear hr hK hF hc hmk hh5 hfew hs hl
  go_enter Try.func40, Try.ntmps40
  go_wp2_with (first | ((with_reducible refine gate_dst (N := 5) rfl ?_); (try (refine gate_guard (by rfl) ?_; dsimp only)); refine box_event ?hg (N := 5) ?hd (cs := #[.int .i64 t.f0, .int .i64 t.f1, .int .i64 t.f2, .slice A t.f3.length c]) (t := 31) ?hr ?_; (case hd => rfl); (case hg => rfl); (case hr => first | (go_simp; done) | (go_simp; rfl)); intro gT hg wT hbox hb; have BT := Aside0.mk hbox; have GT := Aside0.mk (by rw [hg]; exact below_size HB.out : W.heap.size ≤ gT); replace HB := Aside0.mk (below_step HB.out hb); replace HF := Aside0.mk (Kd.F_below HF.out hb); clear hb hbox hg; obtain ⟨z0, z1, z2, z3, f0, f1, f2, f3⟩ := cz4 BT.out) | ((with_reducible refine gate_dst (N := 10) rfl ?_); (try (refine gate_guard (by rfl) ?_; dsimp only)); refine box_event ?hg (N := 10) ?hd (cs := #[.int .i64 0, .int .i64 0, .int .i64 0, .slice none 0 0]) (t := 31) ?hr ?_; (case hd => rfl); (case hg => rfl); (case hr => first | (go_simp; done) | (go_simp; rfl)); intro gR hg wR hbox hb; have BR := Aside0.mk hbox; have GR := Aside0.mk (by rw [hg]; exact below_size HB.out : W.heap.size ≤ gR); have NTR := Aside0.mk (by rw [hg]; exact lt1 BT.out : gT ≠ gR); have NRT := Aside0.mk (by rw [hg]; exact gt1 BT.out : gR ≠ gT); replace BT := Aside0.mk (bb hb BT.out); replace HB := Aside0.mk (below_step HB.out hb); replace HF := Aside0.mk (Kd.F_below HF.out hb); clear hb hbox hg; clear z0 z1 z2 z3 f0 f1 f2 f3; obtain ⟨z0, z1, z2, z3, f0, f1, f2, f3⟩ := cz4 BT.out; obtain ⟨r0, r1, r2, r3, rf0, rf1, rf2, rf3⟩ := cz4 BR.out; have nTR := NTR.out; have nRT := NRT.out) | (go_at_call 19; refine (tree_Right.calls KR t.f0 t.f1 t.f2 A c t.f3 w h true _ (Kd.F_now HF.out) HCC.out HR.out).mono ?_; rintro e wA ⟨rfl, hb⟩; replace BT := Aside0.mk (bb hb BT.out); replace BR := Aside0.mk (bb hb BR.out); replace HB := Aside0.mk (below_step HB.out hb); replace HF := Aside0.mk (Kd.F_below HF.out hb); clear hb z0 z1 z2 z3 f0 f1 f2 f3 r0 r1 r2 r3 rf0 rf1 rf2 rf3; obtain ⟨z0, z1, z2, z3, f0, f1, f2, f3⟩ := cz4 BT.out; obtain ⟨r0, r1, r2, r3, rf0, rf1, rf2, rf3⟩ := cz4 BR.out) | (go_at_call 58; refine (tree_size.calls w2 h2 true _ HS.out).mono ?_; rintro e wS ⟨rfl, hd⟩; obtain ⟨nd, hd⟩ := hd.out; have hb : Below wA.heap.size wA wS := (by first | (subst hd; exact pw_below_drewN (Below.refl _ _) nd) | (rw [hd]; done)); clear hd; replace BT := Aside0.mk (bb hb BT.out); replace BR := Aside0.mk (bb hb BR.out); replace HB := Aside0.mk (below_step HB.out hb); replace HF := Aside0.mk (Kd.F_below HF.out hb); clear hb z0 z1 z2 z3 f0 f1 f2 f3 r0 r1 r2 r3 rf0 rf1 rf2 rf3; obtain ⟨z0, z1, z2, z3, f0, f1, f2, f3⟩ := cz4 BT.out; obtain ⟨r0, r1, r2, r3, rf0, rf1, rf2, rf3⟩ := cz4 BR.out) | (go_at_call 77; first | (with_reducible refine (HL.out 1 (.inl rfl) _ A c (Kd.F_now HF.out) HCC.out).mono ?_; rintro e wL ⟨rfl, hb⟩; replace BT := Aside0.mk (bb hb BT.out); replace BR := Aside0.mk (bb hb BR.out); replace HB := Aside0.mk (below_step HB.out hb); replace HF := Aside0.mk (Kd.F_below HF.out hb); clear hb z0 z1 z2 z3 f0 f1 f2 f3 r0 r1 r2 r3 rf0 rf1 rf2 rf3; obtain ⟨z0, z1, z2, z3, f0, f1, f2, f3⟩ := cz4 BT.out; obtain ⟨r0, r1, r2, r3, rf0, rf1, rf2, rf3⟩ := cz4 BR.out) | (with_reducible refine (HL.out 2 (.inr rfl) _ A c (Kd.F_now HF.out) HCC.out).mono ?_; rintro e wM ⟨rfl, hb⟩; replace BT := Aside0.mk (bb hb BT.out); replace BR := Aside0.mk (bb hb BR.out); replace HB := Aside0.mk (below_step HB.out hb); replace HF := Aside0.mk (Kd.F_below HF.out hb); clear hb z0 z1 z2 z3 f0 f1 f2 f3 r0 r1 r2 r3 rf0 rf1 rf2 rf3; obtain ⟨z0, z1, z2, z3, f0, f1, f2, f3⟩ := cz4 BT.out; obtain ⟨r0, r1, r2, r3, rf0, rf1, rf2, rf3⟩ := cz4 BR.out)) | ((with_reducible refine gate_store (t := 31) (p := 10) rfl ?_); go_loud (refine store_event (t := 31) (p := 10) (v := ?vf1) (w1 := ((((wL.setCell ⟨gR, 0, none⟩ (.int .i64 0)).setCell ⟨gR, 1, none⟩ (.int .i64 0)).setCell ⟨gR, 2, none⟩ (.int .i64 0)).setCell ⟨gR, 3, none⟩ (.slice none 0 0))) ?hg ?ho ?hn ?hr ?_; (case ho => rfl); (case hg => rfl); (case hn => rfl); (case hr => first | (go_simp; done) | (go_simp; rfl)); intro w9 hw; have N1 : Aside0 (w9.heap[gR]? = some (.cells #[.int .i64 0, .int .i64 0, .int .i64 0, .slice none 0 0] 31 (0, 0))) := ⟨by rw [hw]; exact put4 BR.out⟩; have N2 : Aside0 (Below W.heap.size W w9) := ⟨by rw [hw]; exact below_set (below_set (below_set (below_set HB.out GR.out) GR.out) GR.out) GR.out⟩; clear z0 z1 z2 z3 f0 f1 f2 f3 r0 r1 r2 r3 rf0 rf1 rf2 rf3; clear hw)))
  obtain ⟨s0, s1, s2, s3, _, _, _, _⟩ := cz4 N1.out
  refine bodyPost_ret (v := .tuple #[.agg #[.int .i64 0, .int .i64 0, .int .i64 0, .slice none 0 0], .int .i64 9]) (by simp [results, Try.results40, go_sem, s0, s1, s2, s3]) rfl ?_
  exact ⟨_, rfl, zero_V _ _, N2.out⟩
set_option maxHeartbeats 8000000 in
set_option maxRecDepth 100000 in
theorem Fit_room2 {t : S31} {w h : Int} (hr : RightT t w h) (w2 h2 : Int) (hs : 1 ≤ w2 ∧ w2 ≤ 80 ∧ 1 ≤ h2 ∧ h2 ≤ 50) (hl : leastR R0 t 1 ≤ w2) (hm2 : leastR R0 t 2 > h2) (W : World) (ok : Nat → Prop) (A : Option Addr) (c : Nat) (hF : Kd.F k31 W ok A t.f3.length t.f3) (hc : t.f3.length ≤ c) :
    Calls Try.prog 40 #[.agg #[.int .i64 t.f0, .int .i64 t.f1, .int .i64 t.f2, .slice A t.f3.length c], .int .i64 w, .int .i64 h, .int .i64 w2, .int .i64 h2] W fun e w' => TreeErr W w' ok e z31' 9 := by
  have hu31 := Try.underlying31
  obtain ⟨KR, hK⟩ := right_yes hr
  have HR := Aside0.mk (hK KR (Nat.le_refl _))
  have HF := Aside0.mk (F_cut hF)
  have HCC := Aside0.mk hc
  have HB := Aside0.mk (Below.refl W.heap.size W)
  have HS : Aside0 (tree_size.f w2 h2 = some true) := ⟨by rw [size_f, decide_eq_true hs]⟩
  have hmk := hr.ok
  have hh5 := hr.h5
  have hfew := hr.few
  have HL : Aside0 (∀ (way : Int), way = 1 ∨ way = 2 → ∀ (W' : World) (A : Option Addr) (c : Nat), Kd.C k31 W' A t.f3.length t.f3 → t.f3.length ≤ c → Calls Try.prog 77 #[.agg #[.int .i64 t.f0, .int .i64 t.f1, .int .i64 t.f2, .slice A t.f3.length c], .int .i64 way] W' fun e w' => e = .returned (.int .i64 (leastR R0 t way)) ∧ Below W'.heap.size W' w') := ⟨fun way hw W' A c hC hc => least_calls _ t w h hmk hr.w1 hr.w8 hr.h1 (by omega) R0 (by unfold R0; omega) way hw W' A c hC hc⟩
  have g1 : decide (leastR R0 t 1 > w2) = false := decide_eq_false (by omega)
  have g1' : decide (w2 < leastR R0 t 1) = false := decide_eq_false (by omega)
  have g2 : decide (leastR R0 t 2 > h2) = true := decide_eq_true hm2
  have g2' : decide (h2 < leastR R0 t 2) = true := decide_eq_true hm2
  clear hr hK hF hc hmk hh5 hfew hs hl hm2
  go_enter Try.func40, Try.ntmps40
  go_wp2_with (first | ((with_reducible refine gate_dst (N := 5) rfl ?_); (try (refine gate_guard (by rfl) ?_; dsimp only)); refine box_event ?hg (N := 5) ?hd (cs := #[.int .i64 t.f0, .int .i64 t.f1, .int .i64 t.f2, .slice A t.f3.length c]) (t := 31) ?hr ?_; (case hd => rfl); (case hg => rfl); (case hr => first | (go_simp; done) | (go_simp; rfl)); intro gT hg wT hbox hb; have BT := Aside0.mk hbox; have GT := Aside0.mk (by rw [hg]; exact below_size HB.out : W.heap.size ≤ gT); replace HB := Aside0.mk (below_step HB.out hb); replace HF := Aside0.mk (Kd.F_below HF.out hb); clear hb hbox hg; obtain ⟨z0, z1, z2, z3, f0, f1, f2, f3⟩ := cz4 BT.out) | ((with_reducible refine gate_dst (N := 10) rfl ?_); (try (refine gate_guard (by rfl) ?_; dsimp only)); refine box_event ?hg (N := 10) ?hd (cs := #[.int .i64 0, .int .i64 0, .int .i64 0, .slice none 0 0]) (t := 31) ?hr ?_; (case hd => rfl); (case hg => rfl); (case hr => first | (go_simp; done) | (go_simp; rfl)); intro gR hg wR hbox hb; have BR := Aside0.mk hbox; have GR := Aside0.mk (by rw [hg]; exact below_size HB.out : W.heap.size ≤ gR); have NTR := Aside0.mk (by rw [hg]; exact lt1 BT.out : gT ≠ gR); have NRT := Aside0.mk (by rw [hg]; exact gt1 BT.out : gR ≠ gT); replace BT := Aside0.mk (bb hb BT.out); replace HB := Aside0.mk (below_step HB.out hb); replace HF := Aside0.mk (Kd.F_below HF.out hb); clear hb hbox hg; clear z0 z1 z2 z3 f0 f1 f2 f3; obtain ⟨z0, z1, z2, z3, f0, f1, f2, f3⟩ := cz4 BT.out; obtain ⟨r0, r1, r2, r3, rf0, rf1, rf2, rf3⟩ := cz4 BR.out; have nTR := NTR.out; have nRT := NRT.out) | (go_at_call 19; refine (tree_Right.calls KR t.f0 t.f1 t.f2 A c t.f3 w h true _ (Kd.F_now HF.out) HCC.out HR.out).mono ?_; rintro e wA ⟨rfl, hb⟩; replace BT := Aside0.mk (bb hb BT.out); replace BR := Aside0.mk (bb hb BR.out); replace HB := Aside0.mk (below_step HB.out hb); replace HF := Aside0.mk (Kd.F_below HF.out hb); clear hb z0 z1 z2 z3 f0 f1 f2 f3 r0 r1 r2 r3 rf0 rf1 rf2 rf3; obtain ⟨z0, z1, z2, z3, f0, f1, f2, f3⟩ := cz4 BT.out; obtain ⟨r0, r1, r2, r3, rf0, rf1, rf2, rf3⟩ := cz4 BR.out) | (go_at_call 58; refine (tree_size.calls w2 h2 true _ HS.out).mono ?_; rintro e wS ⟨rfl, hd⟩; obtain ⟨nd, hd⟩ := hd.out; have hb : Below wA.heap.size wA wS := (by first | (subst hd; exact pw_below_drewN (Below.refl _ _) nd) | (rw [hd]; done)); clear hd; replace BT := Aside0.mk (bb hb BT.out); replace BR := Aside0.mk (bb hb BR.out); replace HB := Aside0.mk (below_step HB.out hb); replace HF := Aside0.mk (Kd.F_below HF.out hb); clear hb z0 z1 z2 z3 f0 f1 f2 f3 r0 r1 r2 r3 rf0 rf1 rf2 rf3; obtain ⟨z0, z1, z2, z3, f0, f1, f2, f3⟩ := cz4 BT.out; obtain ⟨r0, r1, r2, r3, rf0, rf1, rf2, rf3⟩ := cz4 BR.out) | (go_at_call 77; first | (with_reducible refine (HL.out 1 (.inl rfl) _ A c (Kd.F_now HF.out) HCC.out).mono ?_; rintro e wL ⟨rfl, hb⟩; replace BT := Aside0.mk (bb hb BT.out); replace BR := Aside0.mk (bb hb BR.out); replace HB := Aside0.mk (below_step HB.out hb); replace HF := Aside0.mk (Kd.F_below HF.out hb); clear hb z0 z1 z2 z3 f0 f1 f2 f3 r0 r1 r2 r3 rf0 rf1 rf2 rf3; obtain ⟨z0, z1, z2, z3, f0, f1, f2, f3⟩ := cz4 BT.out; obtain ⟨r0, r1, r2, r3, rf0, rf1, rf2, rf3⟩ := cz4 BR.out) | (with_reducible refine (HL.out 2 (.inr rfl) _ A c (Kd.F_now HF.out) HCC.out).mono ?_; rintro e wM ⟨rfl, hb⟩; replace BT := Aside0.mk (bb hb BT.out); replace BR := Aside0.mk (bb hb BR.out); replace HB := Aside0.mk (below_step HB.out hb); replace HF := Aside0.mk (Kd.F_below HF.out hb); clear hb z0 z1 z2 z3 f0 f1 f2 f3 r0 r1 r2 r3 rf0 rf1 rf2 rf3; obtain ⟨z0, z1, z2, z3, f0, f1, f2, f3⟩ := cz4 BT.out; obtain ⟨r0, r1, r2, r3, rf0, rf1, rf2, rf3⟩ := cz4 BR.out)) | ((with_reducible refine gate_store (t := 31) (p := 10) rfl ?_); go_loud (refine store_event (t := 31) (p := 10) (v := ?vf2) (w1 := ((((wM.setCell ⟨gR, 0, none⟩ (.int .i64 0)).setCell ⟨gR, 1, none⟩ (.int .i64 0)).setCell ⟨gR, 2, none⟩ (.int .i64 0)).setCell ⟨gR, 3, none⟩ (.slice none 0 0))) ?hg ?ho ?hn ?hr ?_; (case ho => rfl); (case hg => rfl); (case hn => rfl); (case hr => first | (go_simp; done) | (go_simp; rfl)); intro w9 hw; have N1 : Aside0 (w9.heap[gR]? = some (.cells #[.int .i64 0, .int .i64 0, .int .i64 0, .slice none 0 0] 31 (0, 0))) := ⟨by rw [hw]; exact put4 BR.out⟩; have N2 : Aside0 (Below W.heap.size W w9) := ⟨by rw [hw]; exact below_set (below_set (below_set (below_set HB.out GR.out) GR.out) GR.out) GR.out⟩; clear z0 z1 z2 z3 f0 f1 f2 f3 r0 r1 r2 r3 rf0 rf1 rf2 rf3; clear hw)))
  obtain ⟨s0, s1, s2, s3, _, _, _, _⟩ := cz4 N1.out
  refine bodyPost_ret (v := .tuple #[.agg #[.int .i64 0, .int .i64 0, .int .i64 0, .slice none 0 0], .int .i64 9]) (by simp [results, Try.results40, go_sem, s0, s1, s2, s3]) rfl ?_
  exact ⟨_, rfl, zero_V _ _, N2.out⟩
set_option maxHeartbeats 8000000 in
set_option maxRecDepth 100000 in
theorem Fit_do {t : S31} {w h : Int} (hr : RightT t w h) (w2 h2 : Int) (hs : 1 ≤ w2 ∧ w2 ≤ 80 ∧ 1 ≤ h2 ∧ h2 ≤ 50) (hl : leastR R0 t 1 ≤ w2) (hm2 : leastR R0 t 2 ≤ h2) (W : World) (ok : Nat → Prop) (A : Option Addr) (c : Nat) (hF : Kd.F k31 W ok A t.f3.length t.f3) (hc : t.f3.length ≤ c) :
    Calls Try.prog 40 #[.agg #[.int .i64 t.f0, .int .i64 t.f1, .int .i64 t.f2, .slice A t.f3.length c], .int .i64 w, .int .i64 h, .int .i64 w2, .int .i64 h2] W fun e w' => TreeErr W w' ok e (fitR R0 t w2 h2) 0 := by
  have hu31 := Try.underlying31
  obtain ⟨KR, hK⟩ := right_yes hr
  have HR := Aside0.mk (hK KR (Nat.le_refl _))
  have HF := Aside0.mk (F_cut hF)
  have HCC := Aside0.mk hc
  have HB := Aside0.mk (Below.refl W.heap.size W)
  have HS : Aside0 (tree_size.f w2 h2 = some true) := ⟨by rw [size_f, decide_eq_true hs]⟩
  have hmk := hr.ok
  have hh5 := hr.h5
  have hfew := hr.few
  have HL : Aside0 (∀ (way : Int), way = 1 ∨ way = 2 → ∀ (W' : World) (A : Option Addr) (c : Nat), Kd.C k31 W' A t.f3.length t.f3 → t.f3.length ≤ c → Calls Try.prog 77 #[.agg #[.int .i64 t.f0, .int .i64 t.f1, .int .i64 t.f2, .slice A t.f3.length c], .int .i64 way] W' fun e w' => e = .returned (.int .i64 (leastR R0 t way)) ∧ Below W'.heap.size W' w') := ⟨fun way hw W' A c hC hc => least_calls _ t w h hmk hr.w1 hr.w8 hr.h1 (by omega) R0 (by unfold R0; omega) way hw W' A c hC hc⟩
  have g1 : decide (leastR R0 t 1 > w2) = false := decide_eq_false (by omega)
  have g1' : decide (w2 < leastR R0 t 1) = false := decide_eq_false (by omega)
  have g2 : decide (leastR R0 t 2 > h2) = false := decide_eq_false (by omega)
  have g2' : decide (h2 < leastR R0 t 2) = false := decide_eq_false (by omega)
  have HM : Aside0 (∀ (W' : World) (ok' : Nat → Prop) (A : Option Addr) (c : Nat), Kd.F k31 W' ok' A t.f3.length t.f3 → t.f3.length ≤ c → Calls Try.prog 78 #[.agg #[.int .i64 t.f0, .int .i64 t.f1, .int .i64 t.f2, .slice A t.f3.length c], .int .i64 w2, .int .i64 h2] W' fun e w' => TreeOut W' w' ok' e (fitR R0 t w2 h2)) := ⟨fun W' ok' A c hF hc => (fit_calls _ t w h hmk hr.w1 hr.w8 hr.h1 (by omega) (by omega) R0 (by unfold R0; omega) w2 h2 (by omega) (by omega) (by omega) (by omega) W' ok' A c hF hc).mono (fun e w' h => h.out)⟩
  generalize fitR R0 t w2 h2 = q at HM ⊢
  clear hr hK hF hc hmk hh5 hfew hs hl hm2
  go_enter Try.func40, Try.ntmps40
  go_wp2_with (first | ((with_reducible refine gate_dst (N := 5) rfl ?_); (try (refine gate_guard (by rfl) ?_; dsimp only)); refine box_event ?hg (N := 5) ?hd (cs := #[.int .i64 t.f0, .int .i64 t.f1, .int .i64 t.f2, .slice A t.f3.length c]) (t := 31) ?hr ?_; (case hd => rfl); (case hg => rfl); (case hr => first | (go_simp; done) | (go_simp; rfl)); intro gT hg wT hbox hb; have BT := Aside0.mk hbox; have GT := Aside0.mk (by rw [hg]; exact below_size HB.out : W.heap.size ≤ gT); replace HB := Aside0.mk (below_step HB.out hb); replace HF := Aside0.mk (Kd.F_below HF.out hb); clear hb hbox hg; obtain ⟨z0, z1, z2, z3, f0, f1, f2, f3⟩ := cz4 BT.out) | ((with_reducible refine gate_dst (N := 10) rfl ?_); (try (refine gate_guard (by rfl) ?_; dsimp only)); refine box_event ?hg (N := 10) ?hd (cs := #[.int .i64 0, .int .i64 0, .int .i64 0, .slice none 0 0]) (t := 31) ?hr ?_; (case hd => rfl); (case hg => rfl); (case hr => first | (go_simp; done) | (go_simp; rfl)); intro gR hg wR hbox hb; have BR := Aside0.mk hbox; have GR := Aside0.mk (by rw [hg]; exact below_size HB.out : W.heap.size ≤ gR); have NTR := Aside0.mk (by rw [hg]; exact lt1 BT.out : gT ≠ gR); have NRT := Aside0.mk (by rw [hg]; exact gt1 BT.out : gR ≠ gT); replace BT := Aside0.mk (bb hb BT.out); replace HB := Aside0.mk (below_step HB.out hb); replace HF := Aside0.mk (Kd.F_below HF.out hb); clear hb hbox hg; clear z0 z1 z2 z3 f0 f1 f2 f3; obtain ⟨z0, z1, z2, z3, f0, f1, f2, f3⟩ := cz4 BT.out; obtain ⟨r0, r1, r2, r3, rf0, rf1, rf2, rf3⟩ := cz4 BR.out; have nTR := NTR.out; have nRT := NRT.out) | (go_at_call 19; refine (tree_Right.calls KR t.f0 t.f1 t.f2 A c t.f3 w h true _ (Kd.F_now HF.out) HCC.out HR.out).mono ?_; rintro e wA ⟨rfl, hb⟩; replace BT := Aside0.mk (bb hb BT.out); replace BR := Aside0.mk (bb hb BR.out); replace HB := Aside0.mk (below_step HB.out hb); replace HF := Aside0.mk (Kd.F_below HF.out hb); clear hb z0 z1 z2 z3 f0 f1 f2 f3 r0 r1 r2 r3 rf0 rf1 rf2 rf3; obtain ⟨z0, z1, z2, z3, f0, f1, f2, f3⟩ := cz4 BT.out; obtain ⟨r0, r1, r2, r3, rf0, rf1, rf2, rf3⟩ := cz4 BR.out) | (go_at_call 58; refine (tree_size.calls w2 h2 true _ HS.out).mono ?_; rintro e wS ⟨rfl, hd⟩; obtain ⟨nd, hd⟩ := hd.out; have hb : Below wA.heap.size wA wS := (by first | (subst hd; exact pw_below_drewN (Below.refl _ _) nd) | (rw [hd]; done)); clear hd; replace BT := Aside0.mk (bb hb BT.out); replace BR := Aside0.mk (bb hb BR.out); replace HB := Aside0.mk (below_step HB.out hb); replace HF := Aside0.mk (Kd.F_below HF.out hb); clear hb z0 z1 z2 z3 f0 f1 f2 f3 r0 r1 r2 r3 rf0 rf1 rf2 rf3; obtain ⟨z0, z1, z2, z3, f0, f1, f2, f3⟩ := cz4 BT.out; obtain ⟨r0, r1, r2, r3, rf0, rf1, rf2, rf3⟩ := cz4 BR.out) | (go_at_call 77; first | (with_reducible refine (HL.out 1 (.inl rfl) _ A c (Kd.F_now HF.out) HCC.out).mono ?_; rintro e wL ⟨rfl, hb⟩; replace BT := Aside0.mk (bb hb BT.out); replace BR := Aside0.mk (bb hb BR.out); replace HB := Aside0.mk (below_step HB.out hb); replace HF := Aside0.mk (Kd.F_below HF.out hb); clear hb z0 z1 z2 z3 f0 f1 f2 f3 r0 r1 r2 r3 rf0 rf1 rf2 rf3; obtain ⟨z0, z1, z2, z3, f0, f1, f2, f3⟩ := cz4 BT.out; obtain ⟨r0, r1, r2, r3, rf0, rf1, rf2, rf3⟩ := cz4 BR.out) | (with_reducible refine (HL.out 2 (.inr rfl) _ A c (Kd.F_now HF.out) HCC.out).mono ?_; rintro e wM ⟨rfl, hb⟩; replace BT := Aside0.mk (bb hb BT.out); replace BR := Aside0.mk (bb hb BR.out); replace HB := Aside0.mk (below_step HB.out hb); replace HF := Aside0.mk (Kd.F_below HF.out hb); clear hb z0 z1 z2 z3 f0 f1 f2 f3 r0 r1 r2 r3 rf0 rf1 rf2 rf3; obtain ⟨z0, z1, z2, z3, f0, f1, f2, f3⟩ := cz4 BT.out; obtain ⟨r0, r1, r2, r3, rf0, rf1, rf2, rf3⟩ := cz4 BR.out)) | (go_at_call 78; refine (HM.out _ _ A c HF.out HCC.out).mono ?_; rintro e wK ho; obtain ⟨v, rfl, ⟨A5, c5, rfl, h5, hF5⟩, hb⟩ := ho; have HWL := Aside0.mk (HB.out.size); have HRL := Aside0.mk (blk_lt BR.out); have HF5 := Aside0.mk (F_cut hF5); have H5 := Aside0.mk h5; replace HF := HF; replace BT := Aside0.mk (bb hb BT.out); replace BR := Aside0.mk (bb hb BR.out); replace HB := Aside0.mk (below_step HB.out hb); replace HF := Aside0.mk (Kd.F_below HF.out hb); clear hb z0 z1 z2 z3 f0 f1 f2 f3 r0 r1 r2 r3 rf0 rf1 rf2 rf3; obtain ⟨z0, z1, z2, z3, f0, f1, f2, f3⟩ := cz4 BT.out; obtain ⟨r0, r1, r2, r3, rf0, rf1, rf2, rf3⟩ := cz4 BR.out; clear h5 hF5) | ((with_reducible refine gate_store (t := 31) (p := 10) rfl ?_); go_loud (refine store_event (t := 31) (p := 10) (v := ?vf3) (w1 := ((((wK.setCell ⟨gR, 0, none⟩ (.int .i64 q.f0)).setCell ⟨gR, 1, none⟩ (.int .i64 q.f1)).setCell ⟨gR, 2, none⟩ (.int .i64 q.f2)).setCell ⟨gR, 3, none⟩ (.slice A5 q.f3.length c5))) ?hg ?ho ?hn ?hr ?_; (case ho => rfl); (case hg => rfl); (case hn => rfl); (case hr => first | (go_simp; done) | (go_simp; rfl)); intro w9 hw; have N1 : Aside0 (w9.heap[gR]? = some (.cells #[.int .i64 q.f0, .int .i64 q.f1, .int .i64 q.f2, .slice A5 q.f3.length c5] 31 (0, 0))) := ⟨by rw [hw]; exact put4 BR.out⟩; have N2 : Aside0 (Below W.heap.size W w9) := ⟨by rw [hw]; exact below_set (below_set (below_set (below_set HB.out GR.out) GR.out) GR.out) GR.out⟩; have N3 := Aside0.mk (show Kd.F k31 w9 _ A5 _ _ from by rw [hw]; exact F_far4 HF5.out (fun k hk => by have := GR.out; have := HRL.out; have := hk.1; have := hk.2; show k ≠ gR; omega)); clear z0 z1 z2 z3 f0 f1 f2 f3 r0 r1 r2 r3 rf0 rf1 rf2 rf3; clear hw)))
  obtain ⟨s0, s1, s2, s3, _, _, _, _⟩ := cz4 N1.out
  refine bodyPost_ret (v := .tuple #[.agg #[.int .i64 q.f0, .int .i64 q.f1, .int .i64 q.f2, .slice A5 q.f3.length c5], .int .i64 0]) (by simp [results, Try.results40, go_sem, s0, s1, s2, s3]) rfl ?_
  exact ⟨_, rfl, ⟨A5, c5, rfl, H5.out, Kd.F_mono N3.out (fun k hk => hk.1.elim (fun h => .inl h.1) (fun h => .inr (Nat.le_trans HWL.out h)))⟩, N2.out⟩
end Go.Proofs.Ytplngfammfdemaa
end
section
namespace Go.Proofs.Ytplngfammfdemaa
open Go.RowKit Go.Shelf Go.Proofs.YtplngfammfdemaaW.PrintWords Go.Proofs.YtplngfammfdemaaW.PrintLast Go.Proofs.YtplngfammfdemaaW.PrintMore Q
attribute [local go_sem] Oper.semAt_some
set_option linter.unusedVariables false
set_option linter.unusedSimpArgs false
structure CollI {α : Type} (w : World) (Bs : Nat) (enc : α → Value) (pre : List α) (W : World) : Prop where
  box : ∃ v, W.heap[Bs]? = some (.cells #[v] 22 (0, 0)) ∧ W.ownsRow w.heap.size 3 1 v pre.length (pre.map enc)
  below : Below w.heap.size w W
set_option maxRecDepth 100000 in
set_option maxHeartbeats 4000000 in
theorem appendInts_in (n : Nat) (hn : 2 ≤ n) (gf : FuncId) (lb : Array Value) (eg : ∀ args w, (callFunc gf args).run Try.prog w = .ok (.enter gf args) w) (zs : List Int) (Sp : List Int → Prop) (N : Nat) (hN : N ≤ 1000) (w w0 : World) (hw0 : Below w0.heap.size w0 w)
    (hseq : SeqStopsK Fence.wide (n - 1) Try.prog gf lb (fun x : Int => #[Value.int .i64 x]) (Below w0.heap.size) (fun ys => ys = zs) Sp N w0) :
    CallsIn Fence.wide n Try.prog 114 #[.slice none 0 0, .func (.func gf) #[] lb] w fun e w' => ∃ v, e = .returned v ∧ w'.ownsRow w.heap.size 3 1 v zs.length (zs.map (fun x : Int => Value.int .i64 x)) ∧ Below w.heap.size w w' := by
  obtain ⟨i0, hi, hz0, hz1, hz2⟩ := info3
  refine callsIn_of_wp_marks Try.func114 rfl trivial ?_ rfl
  simp only [Try.ntmps114, List.size_toArray, List.length_cons, List.length_nil, Nat.reduceAdd, Nat.reduceSub, Array.replicate_succ, Array.replicate_zero, List.push_toArray, List.append_toArray, List.nil_append, List.cons_append]
  gi_wp2
  obtain ⟨W0, hW0⟩ : ∃ W0, (w.alloc (Obj.cells #[Value.slice none 0 0] 22)) = W0 := ⟨_, rfl⟩
  have hB0 : Below w.heap.size w W0 := by rw [← hW0]; exact ((Below.refl _ w).alloc (Nat.le_refl _) _)
  have hs0 : W0.heap.size = w.heap.size + 1 := by rw [← hW0]; simp
  have hbox : W0.heap[w.heap.size]? = some (.cells #[Value.slice none 0 0] 22 (0, 0)) := by rw [← hW0]; exact blk_new w _
  rw [hW0]
  have hw1 : Below w0.heap.size w0 W0 := hw0.trans (hB0.mono hw0.size)
  have hle : w0.heap.size ≤ w.heap.size := hw0.size
  have h0 : CollI w w.heap.size (fun x : Int => Value.int .i64 x) [] W0 := ⟨⟨_, hbox, World.ownsRow_nil _ _ _ _⟩, hB0⟩
  clear hW0
  refine wpIn_rangeFunc_ownH rfl (by omega) (gf := gf) (lb := lb) rfl trivial eg hseq belowK_t (belowK_b (by omega)) hw1 (fun _ => rfl)
    (fun pre W => CollI w w.heap.size (fun x : Int => Value.int .i64 x) pre W)
    (fun _ _ _ => False)
    ?own
    (fun _ _ _ _ _ hs _ _ => hs)
    h0
    (fun x a' W => a' = { tmps := #[Value.slice none 0 0, Value.func (Fn.func gf) #[] lb, Value.pointer (some { block := w.heap.size, off := 0 }), undef, Value.slice none 0 0, Value.int .i64 x, Value.func (Fn.func gf) #[] lb, Value.int .i64 x, undef, undef, undef, undef, undef], defers := [] })
    ?ownx ?assign ?body ?done ?stop
  case own =>
    intro s A B row hs hg hr
    obtain ⟨⟨v, hb, ho⟩, hB⟩ := hs
    refine ⟨⟨v, ?_, ho.kept hg ?_⟩, ownFrom_below (Nat.le_refl _) (by omega) s A B row hB hg hr⟩
    · exact (hg.block _ (blk_lt hb) (fun e => by obtain ⟨_, o, h1, h2⟩ := hr _ e.symm; rw [hb] at h1; cases h1; cases h2)).trans hb
    · rcases ho.2 with ⟨rfl, _⟩ | ⟨g, cap, cur, rfl, _, hgb, _⟩
      · exact .inl rfl
      · refine .inr fun e => ?_
        obtain ⟨_, o, h1, h2⟩ := hr g e.symm
        rw [hgb] at h1; cases h1; cases h2
  case ownx =>
    rintro x a' s A B row h5 hg hr
    exact h5
  case assign =>
    rintro l pre x W K hI hK
    gi_wp2
    exact hK _ _ (KeepsFrom.refl _ _) (Below.refl _ _) hI rfl
  case body =>
    rintro l pre x a' W hl ⟨r, hr⟩ hI rfl hlt
    obtain ⟨⟨v, hb, ho⟩, hB⟩ := hI
    have hbs := blk_lt hb
    have y0 : W.cell? ⟨w.heap.size, 0, none⟩ = some v := (blk_cell hb 0).trans rfl
    have hne : v.ownBlock ≠ some w.heap.size := row_ne ho hb (by decide)
    have hbase : ∀ k, v.ownBlock = some k → w.heap.size ≤ k := fun k e => (ho.lt k e).1
    have hcells : ∀ (j : Nat) (o : Obj), v.ownBlock = some j → (W.alloc (.cells #[Value.int .i64 x] 3)).heap[j]? = some o → o.isCells = true := by
      intro j o e ho'
      have hlt := (ho.lt j e).2
      rw [Below.heap_alloc _ _ _ hlt] at ho'
      rcases ho.2 with ⟨rfl, _⟩ | ⟨g, cap, cur, rfl, _, hg, _⟩
      · cases e
      · have : g = j := by simpa [Value.ownBlock] using e
        subst this
        rw [hg] at ho'
        cases ho'; rfl
    have HB := Aside0.mk hB
    have HBX := Aside0.mk hb
    have HL := Aside0.mk hlt
    clear hB hb hr hlt
    gi_wp2_with (gi_at_builtin; refine wpListIn_append_own _ rfl _ _ 22 rfl w.heap.size 3 i0 (.int .i64 0) 1 8 Try.underlying22 hi hz0 hz1 hz2 rfl (by decide) v _ _ rfl (ho.alloc _) ⟨W.heap.size, 0, none⟩ 1 1 [Value.int .i64 x] rfl rfl ?c1 ?c2 ?c3 ?c4 ?c5 ?_)
    case c1 =>
      intro j u hj
      match j, hj with
      | 0, hj =>
        rw [← Option.some.inj hj]
        exact (blk_cell (blk_new W _) 0).trans rfl
      | j + 1, hj => simp at hj
    case c2 => intro u hu; rw [List.mem_singleton.1 hu]; rfl
    case c3 => unfold maxLen; have := HL.out; omega
    case c4 => have := HL.out; omega
    case c5 => simp; omega
    intro v' w1 hown hgrow _
    obtain ⟨A', n', c', rfl⟩ := row_slice hown
    have hb1 : w1.heap[w.heap.size]? = some (.cells #[v] 22 (0, 0)) := (hgrow.block _ (by simp; omega) (fun e => hne e.symm)).trans (blk_alloc HBX.out _)
    have u0 := blk_frozen hb1 0
    have y1 : w1.cell? ⟨w.heap.size, 0, none⟩ = some v := (blk_cell hb1 0).trans rfl
    have HB1 := Aside0.mk hb1
    have HW1 := Aside0.mk hown
    have HG1 := Aside0.mk hgrow
    clear hb1 hown hgrow y0 ho
    gi_wp2
    have hne1 : (Value.slice A' n' c').ownBlock ≠ some w.heap.size := row_ne HW1.out HB1.out (by decide)
    have hb2 := blk_put HB1.out 0 (Value.slice A' n' c') rfl
    refine ⟨?_, ?_, ⟨⟨_, hb2, ?_⟩, ?_⟩⟩
    · exact (((KeepsOthers.alloc W _).trans (KeepsOthers.of_grownBy HG1.out hcells)).trans (KeepsOthers.setCell _ _ _)).from _
    · exact ((((Below.refl _ W).alloc (by omega) _).grown HG1.out (by simp; omega) (fun k e => by have := hbase k e; omega)).setCell (p := ⟨w.heap.size, 0, none⟩) (by show w0.heap.size ≤ w.heap.size; omega) _)
    · have := HW1.out.kept (grownBy_setCell' w1 w.heap.size (Value.slice A' n' c')) (.inr hne1)
      rw [List.length_append, List.map_append]
      exact this
    · exact (((HB.out.alloc (by omega) _).grown HG1.out (by simp; omega) (fun k e => hbase k e)).setCell (p := ⟨w.heap.size, 0, none⟩) (Nat.le_refl _) _)
  case done =>
    rintro D ys W hD rfl hI hK
    obtain ⟨⟨v, hb, ho⟩, hB⟩ := hI
    have y0 : W.cell? ⟨w.heap.size, 0, none⟩ = some v := (blk_cell hb 0).trans rfl
    have HO := Aside0.mk ho
    have HB := Aside0.mk hB
    clear ho hB hb
    gi_wp2
    refine ⟨by simp, .inl ⟨_, _, rfl, run_takeDeferred hK, ?_⟩⟩
    refine ⟨v, by simp [results, Try.results114, go_sem], v, rfl, ?_, ?_⟩
    · refine HO.out.kept (grownBy_putObj' W D _) ?_
      rcases HO.out.2 with ⟨rfl, _⟩ | ⟨g, cap, cur, rfl, _, hgb, _⟩
      · exact .inl rfl
      · refine .inr fun e => ?_
        have : g = D := by simpa [Value.ownBlock] using e
        subst this
        rw [hgb] at hK; cases hK
    · exact HB.out.trans (belowK_b (w := w) (Nat.le_refl _) _ D _ _ (by omega) hK rfl rfl)
  case stop =>
    rintro D c pre W _ _ h _
    exact h.elim
/-- slices.Collect of a tree's panes: a row of the call's own. -/
theorem collect_panes (w : World) (B : Nat) (t : S31) (A0 : Option Addr) (c0 : Nat) (k : Nat) (hB : w.heap[B]? = some (.cells (treeC t A0 c0) 31 (0, 0))) (hC : Kd.C k31 w A0 t.f3.length t.f3) (ps : List Int) (hp : panesK k t = some ps) (hlen : ps.length ≤ 1000) :
    Calls Try.prog 79 #[.func (.func 97) #[] #[.pointer (some ⟨B, 0, none⟩)]] w fun e w' => ∃ v, e = .returned v ∧ w'.ownsRow w.heap.size 3 1 v ps.length (ps.map (fun x : Int => Value.int .i64 x)) ∧ Below w.heap.size w w' := by
  have HC := Aside0.mk hC
  have HP := Aside0.mk hp
  have HBX := Aside0.mk hB
  have H := Aside0.mk (callsIn_wide.1 (appendInts_in 5 (by omega) 97 #[.pointer (some ⟨B, 0, none⟩)] (enters_of Try.func97 (by kernel_rfl) rfl) ps (fun q => q <+: ps) ps.length hlen w w (Below.refl _ _) (panes_stops k B t A0 c0 ps w w (Below.refl _ _) hp hB hC)))
  clear hC hp hB
  go_enter Try.func79, Try.ntmps79
  go_wp2_with (go_at_call 114; refine H.out.mono ?_; rintro e w2 ⟨v, rfl, h1, h2⟩; have H1 := Aside0.mk h1; have H2 := Aside0.mk h2; clear h1 h2; obtain ⟨A', n', c', hv⟩ := row_slice H1.out; subst hv)
  go_ret
  exact ⟨_, rfl, H1.out, H2.out⟩
end Go.Proofs.Ytplngfammfdemaa
end
section
namespace Go.Proofs.Ytplngfammfdemaa
open Go.RowKit Go.Proofs.YtplngfammfdemaaW.PrintWords Go.Proofs.YtplngfammfdemaaW.PrintLast Go.Proofs.YtplngfammfdemaaW.PrintMore Q
set_option linter.unusedVariables false
set_option linter.unusedSimpArgs false
set_option maxHeartbeats 4000000 in
set_option maxRecDepth 100000 in
theorem grow_ints (w : World) (n : Nat) (hn : 0 < n) (hn2 : n ≤ 1000) : Calls Try.prog 115 #[.slice none 0 0, .int .i64 (n : Int)] w fun e w' => ∃ G, ∃ cells : Array Value, e = .returned (.slice (some ⟨w.heap.size, 0, none⟩) 0 G) ∧ w'.heap[w.heap.size]? = some (.cells cells 3 (0, 0)) ∧ cells.size = G ∧ n ≤ G ∧ G ≤ maxLen ∧ Below w.heap.size w w' := by
  have hu22 := Try.underlying22
  obtain ⟨i0, hi0, hz0, hz1, hz2⟩ := info3
  have hold : (Builtin.firstCells i0.size 0 (.slice none 0 0)).run Try.prog w.drew = .ok ([] : List Value).toArray w.drew := by rw [hz1]; rfl
  have hap := Lib.run_append_grow_zeros (P := Try.prog) w 22 3 22 3 i0 _ .i64 .i64 Try.underlying22 Try.underlying3 hi0 hz0 none 0 0 [] hold n hn (by omega) (by omega) (by omega) (by rw [hz2]; omega) (by rw [hz2]; exact growslice_fits (by omega) (by omega))
  rw [Nat.zero_add] at hap
  have hGc : n ≤ grownCap w n 0 3 := grownCap_ge _ _ _ _
  have hGm : grownCap w n 0 3 ≤ maxLen := grownCap_le_maxLen _ _ _ _ (by unfold maxLen; omega)
  generalize grownCap w n 0 3 = G at hap hGc hGm
  generalize hcs : (([] : List Value).toArray ++ Builtin.zeroCells (Value.int IntKind.i64 0).cells n ++ Builtin.zeroCells (Value.int IntKind.i64 0).cells (G - n)) = cs at hap
  have hsz : cs.size = G := by
    rw [← hcs]
    simp [size_zeroCells]
    show n * 1 + (G - n) * 1 = G
    omega
  have hblk : (w.drew.alloc (.cells cs 3)).heap[w.heap.size]? = some (.cells cs 3 (0, 0)) := blk_new w.drew _
  have hB : Below w.heap.size w (w.drew.alloc (.cells cs 3)) := (below_drew (Below.refl _ w)).alloc (Nat.le_refl _) _
  generalize w.drew.alloc (.cells cs 3) = w1 at hap hblk hB
  have HBLK := Aside0.mk hblk
  have HB := Aside0.mk hB
  have n1 : decide ((n : Int) < 0) = false := decide_eq_false (by omega)
  have n2 : decide ((n : Int) > 0) = true := decide_eq_true (by omega)
  have n3 : decide ((0 : Int) < (n : Int)) = true := decide_eq_true (by omega)
  have n4 : wrap64 (n : Int) = (n : Int) := by unfold wrap64; omega
  have n5 : (0 < n) = True := eq_true hn
  have n6 : (G = 0) = False := eq_false (by omega)
  clear hold hcs hblk hB hz0 hz1 hz2 hi0
  go_enter Try.func115, Try.ntmps115
  go_wp2_with (at_builtin; refine Lib.wpList_append_run _ rfl _ _ _ _ rfl _ _ rfl rfl _ _ hap ?_)
  go_ret
  exact ⟨G, cs, rfl, HBLK.out, hsz, hGc, hGm, HB.out⟩
theorem own_slice {W : World} {base : Nat} {e : TypeId} {size : Nat} {v : Value} {n : Nat} {xs : List Value} (h : W.ownsRow base e size v n xs) : ∃ A k c, v = .slice A k c := by
  rcases h.2 with ⟨rfl, _⟩ | ⟨g, cap, cur, rfl, _⟩ <;> exact ⟨_, _, _, rfl⟩
theorem own_low {W : World} {base : Nat} {e : TypeId} {size : Nat} {v : Value} {n : Nat} {xs : List Value} (h : W.ownsRow base e size v n xs) : ∀ k, v.ownBlock = some k → base ≤ k := by
  intro k hk
  rcases h.2 with ⟨rfl, _⟩ | ⟨g, cap, cur, rfl, hb, _⟩
  · cases hk
  · have : g = k := by simpa [Value.ownBlock] using hk
    omega
set_option maxHeartbeats 4000000 in
set_option maxRecDepth 100000 in
theorem concat_two (w : World) (gb : Nat) (a1 a2 : Addr) (n1 n2 c1 c2 : Nat) (s1 s2 : List Value) (h1 : s1.length = n1) (h2 : s2.length = n2) (hb : w.heap[gb]? = some (.cells #[.slice (some a1) n1 c1, .slice (some a2) n2 c2] 22 (0, 0))) (hs1 : ∀ j u, s1[j]? = some u → w.cell? (a1.add j) = some u) (hs2 : ∀ j u, s2[j]? = some u → w.cell? (a2.add j) = some u) (ho1 : ∀ u ∈ s1, u.oneCell' = true) (ho2 : ∀ u ∈ s2, u.oneCell' = true) (hp : 0 < n1 + n2) (hm : n1 + n2 ≤ 1000) :
    Calls Try.prog 80 #[.slice (some ⟨gb, 0, none⟩) 2 2] w fun e w' => ∃ v, e = .returned v ∧ w'.ownsRow w.heap.size 3 1 v (n1 + n2) (s1 ++ s2) ∧ Below w.heap.size w w' := by
  have hu22 := Try.underlying22
  obtain ⟨i0, hi0, hz0, hz1, hz2⟩ := info3
  have HB0 := Aside0.mk hb
  have HS1 : Aside0 (∀ W, Below w.heap.size w W → ∀ j u, s1[j]? = some u → W.cell? (a1.add j) = some u) := ⟨fun W hW j u hj => (hW.cell (World.block_lt_of_cell? _ _ (hs1 j u hj))).trans (hs1 j u hj)⟩
  have HS2 : Aside0 (∀ W, Below w.heap.size w W → ∀ j u, s2[j]? = some u → W.cell? (a2.add j) = some u) := ⟨fun W hW j u hj => (hW.cell (World.block_lt_of_cell? _ _ (hs2 j u hj))).trans (hs2 j u hj)⟩
  have H1 := Aside0.mk h1
  have H2 := Aside0.mk h2
  have O1 := Aside0.mk ho1
  have O2 := Aside0.mk ho2
  have HPM := Aside0.mk (And.intro hp hm)
  have z0 : w.cell? ⟨gb, 0, none⟩ = some (.slice (some a1) n1 c1) := (blk_cell hb 0).trans rfl
  have z1 : w.cell? ⟨gb, 1, none⟩ = some (.slice (some a2) n2 c2) := (blk_cell hb 1).trans rfl
  have e1 : wrap64 (n1 : Int) = (n1 : Int) := by unfold wrap64; omega
  have e2 : wrap64 ((n1 : Int) + (n2 : Int)) = (n1 : Int) + (n2 : Int) := by unfold wrap64; omega
  have d1 : decide ((n1 : Int) < 0) = false := decide_eq_false (by omega)
  have d2 : decide ((n1 : Int) + (n2 : Int) < 0) = false := decide_eq_false (by omega)
  have GR := Aside0.mk (grow_ints w (n1 + n2) hp hm)
  clear hb hs1 hs2 h1 h2 ho1 ho2 hp hm
  go_enter Try.func80, Try.ntmps80
  go_wp2
  go_loopg [3, 11] 2 (fun kq v3 v11 w' => (kq = 2 ∧ v3 = .int .i64 0 ∧ v11 = .int .i64 0 ∧ Aside0 (w = w')) ∨ (kq = 1 ∧ v3 = .int .i64 (n1 : Int) ∧ v11 = .int .i64 1 ∧ Aside0 (w = w')) ∨ (kq = 0 ∧ v3 = .int .i64 ((n1 : Int) + (n2 : Int)) ∧ v11 = .int .i64 2 ∧ Aside0 (w = w')))
  case atStart => exact .inl ⟨rfl, rfl, rfl, ⟨rfl⟩⟩
  case round =>
    rcases hrel with ⟨hk, rfl, rfl, HW⟩ | ⟨hk, rfl, rfl, HW⟩ | ⟨hk, rfl, rfl, HW⟩
    · have hw := HW.out
      subst hw
      go_wp2
      go_roundg 1
      case measure => omega
      case rel => exact .inr (.inl ⟨rfl, rfl, rfl, ⟨rfl⟩⟩)
    · have hw := HW.out
      subst hw
      go_wp2
      go_roundg 0
      case measure => omega
      case rel => exact .inr (.inr ⟨rfl, rfl, rfl, ⟨rfl⟩⟩)
    · have hw := HW.out
      subst hw
      go_wp2_with (go_at_call 115; refine GR.out.mono ?_; rintro e w1 ⟨G, cells, rfl, q1, q2, q3, q4, q5⟩; have Q1 := Aside0.mk q1; have Q2 := Aside0.mk q2; have Q3 := Aside0.mk q3; have Q4 := Aside0.mk q4; have Q5 := Aside0.mk q5; clear q1 q2 q3 q4 q5 z0 z1; have z0 := (blk_cell (blk_below HB0.out Q5.out) 0).trans (show _ = some (Value.slice (some a1) n1 c1) from rfl); have z1 := (blk_cell (blk_below HB0.out Q5.out) 1).trans (show _ = some (Value.slice (some a2) n2 c2) from rfl))
      have hown0 : w1.ownsRow w.heap.size 3 1 (.slice (some ⟨w.heap.size, 0, none⟩) 0 G) 0 [] := ⟨rfl, .inr ⟨w.heap.size, G, cells, rfl, Nat.le_refl _, Q1.out, Nat.zero_le _, Q4.out, by rw [Q2.out, Nat.mul_one], rfl⟩⟩
      have OWN0 := Aside0.mk hown0
      clear hown0
      go_loopg [6, 27] 2 (fun kq v6 v27 w' => (kq = 2 ∧ v27 = .int .i64 0 ∧ Aside0 (w'.ownsRow w.heap.size 3 1 v6 0 []) ∧ Aside0 (Below w.heap.size w w')) ∨ (kq = 1 ∧ v27 = .int .i64 1 ∧ Aside0 (w'.ownsRow w.heap.size 3 1 v6 n1 s1) ∧ Aside0 (Below w.heap.size w w')) ∨ (kq = 0 ∧ v27 = .int .i64 2 ∧ Aside0 (w'.ownsRow w.heap.size 3 1 v6 (n1 + n2) (s1 ++ s2)) ∧ Aside0 (Below w.heap.size w w')))
      case atStart => exact .inl ⟨rfl, rfl, ⟨OWN0.out⟩, ⟨Q5.out⟩⟩
      case round =>
        clear z0 z1
        rcases hrel with ⟨hk, rfl, OWN, HB⟩ | ⟨hk, rfl, OWN, HB⟩ | ⟨hk, rfl, OWN, HB⟩
        · obtain ⟨A', k', c', rfl⟩ := own_slice OWN.out
          have z0 := (blk_cell (blk_below HB0.out HB.out) 0).trans (show _ = some (Value.slice (some a1) n1 c1) from rfl)
          have z1 := (blk_cell (blk_below HB0.out HB.out) 1).trans (show _ = some (Value.slice (some a2) n2 c2) from rfl)
          go_wp2_with (at_builtin; refine wpList_append_own_at _ rfl _ _ 22 rfl w.heap.size 3 i0 (.int .i64 0) 1 8 Try.underlying22 hi0 hz0 hz1 hz2 rfl (by decide) _ _ _ rfl OWN.out a1 n1 c1 s1 (by rfl) (by rw [H1.out]; omega) (HS1.out _ HB.out) O1.out (by have := HPM.out; unfold maxLen; omega) (by have := HPM.out; omega) HB.out.size ?_; intro v' w3 hown' hgrow hq hat; have OWN3 := Aside0.mk hown'; have HB3 := Aside0.mk (HB.out.grown hgrow HB.out.size (fun k hk => own_low OWN.out k hk)); clear hown' hgrow hq hat z0 z1)
          go_roundg 1
          case measure => omega
          case rel => exact .inr (.inl ⟨rfl, rfl, ⟨by have := OWN3.out; rw [Nat.zero_add, List.nil_append] at this; exact this⟩, ⟨HB3.out⟩⟩)
        · obtain ⟨A', k', c', rfl⟩ := own_slice OWN.out
          have z0 := (blk_cell (blk_below HB0.out HB.out) 0).trans (show _ = some (Value.slice (some a1) n1 c1) from rfl)
          have z1 := (blk_cell (blk_below HB0.out HB.out) 1).trans (show _ = some (Value.slice (some a2) n2 c2) from rfl)
          go_wp2_with (at_builtin; refine wpList_append_own_at _ rfl _ _ 22 rfl w.heap.size 3 i0 (.int .i64 0) 1 8 Try.underlying22 hi0 hz0 hz1 hz2 rfl (by decide) _ _ _ rfl OWN.out a2 n2 c2 s2 (by rfl) (by rw [H2.out]; omega) (HS2.out _ HB.out) O2.out (by have := HPM.out; unfold maxLen; omega) (by have := HPM.out; omega) HB.out.size ?_; intro v' w3 hown' hgrow hq hat; have OWN3 := Aside0.mk hown'; have HB3 := Aside0.mk (HB.out.grown hgrow HB.out.size (fun k hk => own_low OWN.out k hk)); clear hown' hgrow hq hat z0 z1)
          go_roundg 0
          case measure => omega
          case rel => exact .inr (.inr ⟨rfl, rfl, ⟨OWN3.out⟩, ⟨HB3.out⟩⟩)
        · obtain ⟨A', k', c', rfl⟩ := own_slice OWN.out
          go_wp2
          go_ret
          exact ⟨_, rfl, OWN.out, HB.out⟩
end Go.Proofs.Ytplngfammfdemaa
end
