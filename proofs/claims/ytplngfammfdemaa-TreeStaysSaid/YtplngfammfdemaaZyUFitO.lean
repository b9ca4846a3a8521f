-- A copy of the text YtplngfammfdemaaUFitO with what this claim does not reach left out (prune.py, a program of this project).
import Derived.Test.YtplngfammfdemaaZyMS2
import Derived.Test.YtplngfammfdemaaZyUFitW
import Derived.Test.YtplngfammfdemaaZyMS1
import Derived.Test.YtplngfammfdemaaZyMS3
import Derived.Test.YtplngfammfdemaaZyQx3
namespace Go.Proofs.Ytplngfammfdemaa
open Go.RowKit Go.Proofs.YtplngfammfdemaaW.PrintWords Go.Proofs.YtplngfammfdemaaW.PrintLast Go.Proofs.YtplngfammfdemaaW.PrintMore Q
set_option linter.unusedVariables false
set_option linter.unusedSimpArgs false
/-- What an exported function of the tree's package answers: a tree and an error's number. -/
def TreeErr (W w' : World) (ok : Nat → Prop) (e : Ending) (t : S31) (n : Int) : Prop := ∃ v, e = .returned (.tuple #[v, .int .i64 n]) ∧ TreeV w' (fun k => ok k ∨ W.heap.size ≤ k) v t ∧ Below W.heap.size W w'
def z31' : S31 := ⟨0, 0, 0, []⟩
theorem zero_V (w : World) (ok : Nat → Prop) : TreeV w ok (.agg #[.int .i64 0, .int .i64 0, .int .i64 0, .slice none 0 0]) z31' := ⟨none, 0, rfl, Nat.le_refl _, fun W' _ => Kd.C_nil _ _⟩
set_option maxHeartbeats 8000000 in
set_option maxRecDepth 100000 in
theorem Fit_size {t : S31} {w h : Int} (hr : RightT t w h) (w2 h2 : Int) (hs : ¬ (1 ≤ w2 ∧ w2 ≤ 80 ∧ 1 ≤ h2 ∧ h2 ≤ 50)) (W : World) (ok : Nat → Prop) (A : Option Addr) (c : Nat) (hF : Kd.F k31 W ok A t.f3.length t.f3) (hc : t.f3.length ≤ c) :
    Calls Try.prog 40 #[.agg #[.int .i64 t.f0, .int .i64 t.f1, .int .i64 t.f2, .slice A t.f3.length c], .int .i64 w, .int .i64 h, .int .i64 w2, .int .i64 h2] W fun e w' => TreeErr W w' ok e z31' 1 := by
  have hu31 := Try.underlying31
  obtain ⟨KR, hK⟩ := right_yes hr
  have HR := Aside0.mk (hK KR (Nat.le_refl _))
  have HS : Aside0 (tree_size.f w2 h2 = some false) := ⟨by rw [size_f, decide_eq_false hs]⟩
  have HF := Aside0.mk hF
  have HCC := Aside0.mk hc
  have HB := Aside0.mk (Below.refl W.heap.size W)
  clear hr hK hs hF hc
  go_enter Try.func40, Try.ntmps40
  go_wp2_with (first | ((with_reducible refine gate_dst (N := 5) rfl ?_); (try (refine gate_guard (by rfl) ?_; dsimp only)); refine box_event ?hg (N := 5) ?hd (cs := #[.int .i64 t.f0, .int .i64 t.f1, .int .i64 t.f2, .slice A t.f3.length c]) (t := 31) ?hr ?_; (case hd => rfl); (case hg => rfl); (case hr => first | (go_simp; done) | (go_simp; rfl)); intro gT hg wT hbox hb; have BT := Aside0.mk hbox; have GT := Aside0.mk (by rw [hg]; exact below_size HB.out : W.heap.size ≤ gT); replace HB := Aside0.mk (below_step HB.out hb); replace HF := Aside0.mk (Kd.F_below HF.out hb); clear hb hbox hg; obtain ⟨z0, z1, z2, z3, f0, f1, f2, f3⟩ := cz4 BT.out) | ((with_reducible refine gate_dst (N := 10) rfl ?_); (try (refine gate_guard (by rfl) ?_; dsimp only)); refine box_event ?hg (N := 10) ?hd (cs := #[.int .i64 0, .int .i64 0, .int .i64 0, .slice none 0 0]) (t := 31) ?hr ?_; (case hd => rfl); (case hg => rfl); (case hr => first | (go_simp; done) | (go_simp; rfl)); intro gR hg wR hbox hb; have BR := Aside0.mk hbox; have GR := Aside0.mk (by rw [hg]; exact below_size HB.out : W.heap.size ≤ gR); have NTR := Aside0.mk (by rw [hg]; exact lt1 BT.out : gT ≠ gR); replace BT := Aside0.mk (bb hb BT.out); replace HB := Aside0.mk (below_step HB.out hb); replace HF := Aside0.mk (Kd.F_below HF.out hb); clear hb hbox hg; clear z0 z1 z2 z3 f0 f1 f2 f3; obtain ⟨z0, z1, z2, z3, f0, f1, f2, f3⟩ := cz4 BT.out; obtain ⟨r0, r1, r2, r3, rf0, rf1, rf2, rf3⟩ := cz4 BR.out) | (go_at_call 19; refine (tree_Right.calls KR t.f0 t.f1 t.f2 A c t.f3 w h true _ (Kd.F_now HF.out) HCC.out HR.out).mono ?_; rintro e wA ⟨rfl, hb⟩; replace BT := Aside0.mk (bb hb BT.out); replace BR := Aside0.mk (bb hb BR.out); replace HB := Aside0.mk (below_step HB.out hb); replace HF := Aside0.mk (Kd.F_below HF.out hb); clear hb z0 z1 z2 z3 f0 f1 f2 f3 r0 r1 r2 r3 rf0 rf1 rf2 rf3; obtain ⟨z0, z1, z2, z3, f0, f1, f2, f3⟩ := cz4 BT.out; obtain ⟨r0, r1, r2, r3, rf0, rf1, rf2, rf3⟩ := cz4 BR.out) | (go_at_call 58; go_loud (refine (tree_size.calls w2 h2 false _ HS.out).mono ?_; rintro e wS ⟨rfl, hd⟩; obtain ⟨nd, hd⟩ := hd.out; have hb : Below wA.heap.size wA wS := (by first | (subst hd; exact pw_below_drewN (Below.refl _ _) nd) | (rw [hd]; done)); clear hd; replace BT := Aside0.mk (bb hb BT.out); replace BR := Aside0.mk (bb hb BR.out); replace HB := Aside0.mk (below_step HB.out hb); replace HF := Aside0.mk (Kd.F_below HF.out hb); clear hb z0 z1 z2 z3 f0 f1 f2 f3 r0 r1 r2 r3 rf0 rf1 rf2 rf3; obtain ⟨z0, z1, z2, z3, f0, f1, f2, f3⟩ := cz4 BT.out; obtain ⟨r0, r1, r2, r3, rf0, rf1, rf2, rf3⟩ := cz4 BR.out)) | ((with_reducible refine gate_store (t := 31) (p := 10) rfl ?_); refine store_event (t := 31) (p := 10) (v := ?vo) (w1 := ((((wS.setCell ⟨gR, 0, none⟩ (.int .i64 0)).setCell ⟨gR, 1, none⟩ (.int .i64 0)).setCell ⟨gR, 2, none⟩ (.int .i64 0)).setCell ⟨gR, 3, none⟩ (.slice none 0 0))) ?hg ?ho ?hn ?hr ?_; (case ho => rfl); (case hg => rfl); (case hn => rfl); (case hr => first | (go_simp; done) | (go_simp; rfl)); intro w9 hw; have N1 : Aside0 (w9.heap[gR]? = some (.cells #[.int .i64 0, .int .i64 0, .int .i64 0, .slice none 0 0] 31 (0, 0))) := ⟨by rw [hw]; exact put4 BR.out⟩; have N2 : Aside0 (Below W.heap.size W w9) := ⟨by rw [hw]; exact below_set (below_set (below_set (below_set HB.out GR.out) GR.out) GR.out) GR.out⟩;  clear hw; clear z0 z1 z2 z3 f0 f1 f2 f3 r0 r1 r2 r3 rf0 rf1 rf2 rf3))
  obtain ⟨s0, s1, s2, s3, _, _, _, _⟩ := cz4 N1.out
  refine bodyPost_ret (v := .tuple #[.agg #[.int .i64 0, .int .i64 0, .int .i64 0, .slice none 0 0], .int .i64 1]) (by simp [results, Try.results40, go_sem, s0, s1, s2, s3]) rfl ?_
  exact ⟨_, rfl, zero_V _ _, N2.out⟩
end Go.Proofs.Ytplngfammfdemaa
