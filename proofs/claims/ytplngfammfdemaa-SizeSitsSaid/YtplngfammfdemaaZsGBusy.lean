-- A copy of the text YtplngfammfdemaaGBusy with what this claim does not reach left out (prune.py, a program of this project).
import Derived.Test.YtplngfammfdemaaZsGSeat
namespace Go.Proofs.Ytplngfammfdemaa
open Go.RowKit Go.Proofs.YtplngfammfdemaaW.PrintWords Go.Proofs.YtplngfammfdemaaW.PrintLast Go.Proofs.YtplngfammfdemaaW.PrintMore P
set_option linter.unusedVariables false
set_option linter.unusedSimpArgs false
def size_busy.f (l0 : List S48) (a1 a2 : Int) : Option Bool := if l0.length < 1000000000000000000 then some (l0.any (busyP a1 a2)) else none
set_option maxHeartbeats 4000000 in
set_option maxRecDepth 100000 in
theorem size_busy.calls (A0 : Option Addr) (c0 : Nat) (l0 : List (S48)) (a1 : Int) (a2 : Int) (r : Bool) (w : World) (hr0 : Kd.C k48 w A0 l0.length l0) (hc0 : l0.length ≤ c0) (h : size_busy.f l0 a1 a2 = some r) :
    Calls Try.prog 67 #[.slice A0 l0.length c0, .int .i64 a1, .int .i64 a2] w fun e w' => e = .returned (.bool r) ∧ Below w.heap.size w w' := by
  unfold size_busy.f at h
  by_cases hl : l0.length < 1000000000000000000
  · rw [if_pos hl] at h
    have hr := Aside0.mk (Option.some.inj h)
    have HR0 := Aside0.mk hr0
    have HC0 := Aside0.mk hc0
    have HL := Aside0.mk hl
    clear h hr0 hc0 hl
    go_enter Try.func67, Try.ntmps67
    go_wp2_with (first | ((with_reducible refine gate_dst (N := 4) rfl ?_); refine box_event ?hg (N := 4) ?hd (cs := #[.int .i64 a1]) (t := 3) ?hr ?_; (case hd => rfl); (case hg => rfl); (case hr => first | (go_simp; done) | (go_simp; rfl)); intro g1 hg w1 hbox hb; have HB := Aside0.mk hb; have B1 := Aside0.mk hbox; clear hb hbox hg) | ((with_reducible refine gate_dst (N := 5) rfl ?_); refine box_event ?hg (N := 5) ?hd (cs := #[.int .i64 a2]) (t := 3) ?hr ?_; (case hd => rfl); (case hg => rfl); (case hr => first | (go_simp; done) | (go_simp; rfl)); intro g2 hg w2 hbox hb; replace B1 := Aside0.mk (blk_below B1.out hb); replace HB := Aside0.mk (below_step HB.out hb); have B2 := Aside0.mk hbox; clear hb hbox hg) | (go_at_call 105; refine (contains_seats 106 _ #[.pointer (some ⟨g1, 0, none⟩), .pointer (some ⟨g2, 0, none⟩)] Try.func106 (by kernel_rfl) rfl (busyP a1 a2) A0 c0 l0 _ (Kd.C_below HR0.out HB.out) HC0.out HL.out (busy_closure a1 a2 g1 _ ((blk_cell B1.out 0).trans rfl) g2 ((blk_cell B2.out 0).trans rfl)) r hr.out).mono ?_; rintro e w3 ⟨rfl, hb⟩; replace HB := Aside0.mk (below_step HB.out hb); clear hb))
    go_ret
    exact ⟨rfl, HB.out⟩
  · rw [if_neg hl] at h; cases h
end Go.Proofs.Ytplngfammfdemaa
