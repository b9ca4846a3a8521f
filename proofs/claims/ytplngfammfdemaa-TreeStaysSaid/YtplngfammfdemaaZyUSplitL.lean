-- Copies of the texts YtplngfammfdemaaUTurn, YtplngfammfdemaaUSwap, YtplngfammfdemaaUSplitL with what this claim does not reach left out (prune.py, a program of this project).
import Derived.Test.YtplngfammfdemaaZyUCat
import Derived.Test.YtplngfammfdemaaZyUNamedN
import Derived.Test.YtplngfammfdemaaZyUFitO
import Derived.Test.YtplngfammfdemaaZyMS2
import Derived.Test.YtplngfammfdemaaZyGCont
import Derived.Test.YtplngfammfdemaaZyUFitW
section
namespace Go.Proofs.Ytplngfammfdemaa
open Go.RowKit Go.Proofs.YtplngfammfdemaaW.PrintWords Go.Proofs.YtplngfammfdemaaW.PrintLast Go.Proofs.YtplngfammfdemaaW.PrintMore Q
set_option linter.unusedVariables false
set_option linter.unusedSimpArgs false
theorem cat_rows {w : World} {g : Nat} {cells : Array Value} {ps : List Int} (h : IntsAt w g cells ps) (gb o1 o2 n1 n2 c1 c2 : Nat) (hB : w.heap[gb]? = some (.cells #[.slice (some ⟨g, o1, none⟩) n1 c1, .slice (some ⟨g, o2, none⟩) n2 c2] 22 (0, 0))) (l : List Int) (e : (ps.drop o1).take n1 ++ (ps.drop o2).take n2 = l) {N : Nat} (hN : l.length = N) (h1 : ((ps.drop o1).take n1).length = n1) (h2 : ((ps.drop o2).take n2).length = n2) (hp : 0 < N) (hm : N ≤ 1000) :
    Calls Try.prog 80 #[.slice (some ⟨gb, 0, none⟩) 2 2] w fun e w' => ∃ g2 cap2, ∃ cells2 : Array Value, e = .returned (.slice (some ⟨g2, 0, none⟩) N cap2) ∧ w.heap.size ≤ g2 ∧ N ≤ cap2 ∧ IntsAt w' g2 cells2 l ∧ Below w.heap.size w w' := by
  have hl : n1 + n2 = N := by rw [← hN, ← e, List.length_append, h1, h2]
  refine (concat_two w gb ⟨g, o1, none⟩ ⟨g, o2, none⟩ n1 n2 c1 c2 (vints ((ps.drop o1).take n1)) (vints ((ps.drop o2).take n2)) (by rw [vints_len, h1]) (by rw [vints_len, h2]) hB (h.sub o1 n1) (h.sub o2 n2) (vints_one _) (vints_one _) (by omega) (by omega)).mono ?_
  rintro e' w' ⟨v, rfl, ho, hb⟩
  have e2 : vints ((ps.drop o1).take n1) ++ vints ((ps.drop o2).take n2) = vints l := by unfold vints; rw [← List.map_append, e]
  rw [e2] at ho
  obtain ⟨g2, cap2, cells2, rfl, q1, q2, q3, q4, q5⟩ := IntsAt.of_own ho (by omega) (by omega)
  rw [hN] at q2 ⊢
  exact ⟨g2, cap2, cells2, rfl, q1, q2, q5, hb⟩
set_option maxHeartbeats 8000000 in
set_option maxRecDepth 100000 in
theorem Turn_do {t : S31} {w h : Int} (hr : RightT t w h) (back : Bool) (W : World) (ok : Nat → Prop) (A : Option Addr) (c : Nat) (hF : Kd.F k31 W ok A t.f3.length t.f3) (hc : t.f3.length ≤ c) :
    Calls Try.prog 41 #[.agg #[.int .i64 t.f0, .int .i64 t.f1, .int .i64 t.f2, .slice A t.f3.length c], .int .i64 w, .int .i64 h, .bool back] W fun e w' => TreeErr W w' ok e (namedR R0 t (turnL back (psA t))).1 0 := by
  have hu31 := Try.underlying31
  have hu22 := Try.underlying22
  have hu121 := Try.underlying121
  obtain ⟨KR, hK⟩ := right_yes hr
  have HR := Aside0.mk (hK KR (Nat.le_refl _))
  have HF := Aside0.mk (F_cut hF)
  have HCC := Aside0.mk hc
  have HB := Aside0.mk (Below.refl W.heap.size W)
  have hfew := hr.few
  have hh5 := hr.h5
  have hpan := panes_mk (psA t).length t w h hr.ok hr.w1 hr.w8 hr.h1 (by omega) _ (Nat.le_refl _)
  rw [ps_at hr] at hpan
  have hpos := ps_pos _ t w h hr.ok
  rw [ps_at hr] at hpos
  have hrange := ps_range _ t w h hr.ok
  rw [ps_at hr] at hrange
  obtain ⟨m, hm⟩ : ∃ m, (psA t).length = m + 1 := ⟨(psA t).length - 1, by omega⟩
  have HCOL : Aside0 (∀ (W' : World) (B : Nat) (A : Option Addr) (c : Nat), W'.heap[B]? = some (.cells (treeC t A c) 31 (0, 0)) → Kd.C k31 W' A t.f3.length t.f3 → Calls Try.prog 79 #[.func (.func 97) #[] #[.pointer (some ⟨B, 0, none⟩)]] W' fun e w' => ∃ g cap, ∃ cells : Array Value, e = .returned (.slice (some ⟨g, 0, none⟩) (m + 1) cap) ∧ W'.heap.size ≤ g ∧ m + 1 ≤ cap ∧ cap ≤ maxLen ∧ cells.size = cap ∧ IntsAt w' g cells (psA t) ∧ Below W'.heap.size W' w') := ⟨fun W' B A c hB hC => (collect_panes W' B t A c _ hB hC _ hpan (by omega)).mono (by
    rintro e w' ⟨v, rfl, ho, hb⟩
    obtain ⟨g, cap, cells, rfl, q1, q2, q3, q4, q5⟩ := IntsAt.of_own ho (by omega) (by omega)
    rw [hm] at q2 ⊢
    exact ⟨g, cap, cells, rfl, q1, q2, q3, q4, q5, hb⟩)⟩
  have NAM : Aside0 (∀ (l : List Int), l.length = (psA t).length → (∀ q ∈ l, q ∈ psA t) → ∀ (W' : World) (ok' okN : Nat → Prop) (A : Option Addr) (c : Nat), Kd.F k31 W' ok' A t.f3.length t.f3 → t.f3.length ≤ c → ∀ (nb : Nat) (NA : Option Addr) (nc : Nat), W'.heap[nb]? = some (.cells #[.slice NA l.length nc] 22 (0, 0)) → l.length ≤ nc → Kd.F (Kd.int .i64) W' okN NA l.length l → (∀ j, okN j → j ≠ nb) → (∀ j, ok' j → j ≠ nb) → Calls Try.prog 81 #[.agg #[.int .i64 t.f0, .int .i64 t.f1, .int .i64 t.f2, .slice A t.f3.length c], .pointer (some ⟨nb, 0, none⟩)] W' fun e w' => NamedOut W' w' ok' okN nb e (namedR R0 t l)) := ⟨fun l hl hq W' ok' okN A c hF hc nb NA nc hN hnc hFN h1 h2 => named_calls _ t w h hr.ok hr.w1 hr.w8 hr.h1 (by omega) R0 (by unfold R0; omega) l (by rw [ps_at hr]; omega) (by omega) (fun q hql => hrange q (hq q hql)) W' ok' okN A c hF hc nb NA nc hN hnc hFN h1 h2⟩
  have NAM2 := Aside0.mk (NAM.out (turnL back (psA t)) (turn_len _ _) (fun q hq => turn_mem _ _ q hq))
  have HT : Aside0 ((turnL back (psA t)).length = m + 1) := ⟨by rw [turn_len, hm]⟩
  have hm8 : m ≤ 7 := by omega
  generalize namedR R0 t (turnL back (psA t)) = r at NAM2 ⊢
  generalize psA t = ps at HCOL NAM2 HT hm
  clear NAM hr hK hF hc hfew hh5 hpan hpos hrange
  have HM := Aside0.mk hm
  have e1 : wrap64 (m : Int) = (m : Int) := by unfold wrap64; omega
  have e2 : wrap64 ((m : Int) + 1 - 1) = (m : Int) := by unfold wrap64; omega
  clear hm
  go_enter Try.func41, Try.ntmps41
  go_upto_region 5 with (first | ((with_reducible refine gate_dst (N := 4) rfl ?_); (try (refine gate_guard (by rfl) ?_; dsimp only)); refine box_event ?hg (N := 4) ?hd (cs := #[.int .i64 t.f0, .int .i64 t.f1, .int .i64 t.f2, .slice A t.f3.length c]) (t := 31) ?hr ?_; (case hd => rfl); (case hg => rfl); (case hr => first | (go_simp; done) | (go_simp; rfl)); intro gT hg wT hbox hb; have BT := Aside0.mk hbox; have GT := Aside0.mk (by rw [hg]; exact below_size HB.out : W.heap.size ≤ gT); replace HB := Aside0.mk (below_step HB.out hb); replace HF := Aside0.mk (Kd.F_below HF.out hb); clear hb hbox hg; obtain ⟨z0, z1, z2, z3, f0, f1, f2, f3⟩ := cz4 BT.out) | ((with_reducible refine gate_dst (N := 8) rfl ?_); (try (refine gate_guard (by rfl) ?_; dsimp only)); refine box_event ?hg (N := 8) ?hd (cs := #[.int .i64 0, .int .i64 0, .int .i64 0, .slice none 0 0]) (t := 31) ?hr ?_; (case hd => rfl); (case hg => rfl); (case hr => first | (go_simp; done) | (go_simp; rfl)); intro gR hg wR hbox hb; have BR := Aside0.mk hbox; have GR := Aside0.mk (by rw [hg]; exact below_size HB.out : W.heap.size ≤ gR); have NTR := Aside0.mk (by rw [hg]; exact lt1 BT.out : gT ≠ gR); have NRT := Aside0.mk (by rw [hg]; exact gt1 BT.out : gR ≠ gT); replace BT := Aside0.mk (bb hb BT.out); replace HB := Aside0.mk (below_step HB.out hb); replace HF := Aside0.mk (Kd.F_below HF.out hb); clear hb hbox hg; clear z0 z1 z2 z3 f0 f1 f2 f3; obtain ⟨z0, z1, z2, z3, f0, f1, f2, f3⟩ := cz4 BT.out; obtain ⟨r0, r1, r2, r3, rf0, rf1, rf2, rf3⟩ := cz4 BR.out; have nTR := NTR.out; have nRT := NRT.out) | (go_at_call 19; refine (tree_Right.calls KR t.f0 t.f1 t.f2 A c t.f3 w h true _ (Kd.F_now HF.out) HCC.out HR.out).mono ?_; rintro e wA ⟨rfl, hb⟩; replace BT := Aside0.mk (bb hb BT.out); replace BR := Aside0.mk (bb hb BR.out); replace HB := Aside0.mk (below_step HB.out hb); replace HF := Aside0.mk (Kd.F_below HF.out hb); clear hb z0 z1 z2 z3 f0 f1 f2 f3 r0 r1 r2 r3 rf0 rf1 rf2 rf3; obtain ⟨z0, z1, z2, z3, f0, f1, f2, f3⟩ := cz4 BT.out; obtain ⟨r0, r1, r2, r3, rf0, rf1, rf2, rf3⟩ := cz4 BR.out) | (go_at_call 60; go_loud (refine (panes_any t A c _).mono ?_; rintro e wP ⟨rfl, hwP⟩; have BX := Aside0.mk (show wP.heap[wA.heap.size]? = some (.cells (treeC t A c) 31 (0, 0)) from by rw [hwP]; exact heap_alloc_new wA _); have hb : Below wA.heap.size wA wP := (by rw [hwP]; exact below_alloc (Below.refl _ _) _); clear hwP; replace BT := Aside0.mk (bb hb BT.out); replace BR := Aside0.mk (bb hb BR.out); replace HB := Aside0.mk (below_step HB.out hb); replace HF := Aside0.mk (Kd.F_below HF.out hb); clear hb z0 z1 z2 z3 f0 f1 f2 f3 r0 r1 r2 r3 rf0 rf1 rf2 rf3; obtain ⟨z0, z1, z2, z3, f0, f1, f2, f3⟩ := cz4 BT.out; obtain ⟨r0, r1, r2, r3, rf0, rf1, rf2, rf3⟩ := cz4 BR.out)) | (go_at_call 79; refine (HCOL.out _ _ A c BX.out (Kd.F_now HF.out)).mono ?_; rintro e wC ⟨g, cap, cells, rfl, q1, q2, q3, q4, q5, hb⟩; have Q1 := Aside0.mk (Nat.le_trans HB.out.size q1 : W.heap.size ≤ g); have GTG := Aside0.mk (Nat.ne_of_lt (Nat.lt_of_lt_of_le (blk_lt BT.out) q1) : gT ≠ g); have GRG := Aside0.mk (Nat.ne_of_lt (Nat.lt_of_lt_of_le (blk_lt BR.out) q1) : gR ≠ g); have Q2 := Aside0.mk q2; have Q3 := Aside0.mk q3; have Q4 := Aside0.mk q4; have HI := Aside0.mk q5; clear q1 q2 q3 q4 q5 BX; replace BT := Aside0.mk (bb hb BT.out); replace BR := Aside0.mk (bb hb BR.out); replace HB := Aside0.mk (below_step HB.out hb); replace HF := Aside0.mk (Kd.F_below HF.out hb); clear hb z0 z1 z2 z3 f0 f1 f2 f3 r0 r1 r2 r3 rf0 rf1 rf2 rf3; obtain ⟨z0, z1, z2, z3, f0, f1, f2, f3⟩ := cz4 BT.out; obtain ⟨r0, r1, r2, r3, rf0, rf1, rf2, rf3⟩ := cz4 BR.out) | ((with_reducible refine gate_dst (N := 10) rfl ?_); (try (refine gate_guard (by rfl) ?_; dsimp only)); refine box_event ?hg (N := 10) ?hd (cs := #[.slice none 0 0]) (t := 22) ?hr ?_; (case hd => rfl); (case hg => rfl); (case hr => first | (go_simp; done) | (go_simp; rfl)); intro gL hg wL hbox hb; have BL := Aside0.mk hbox; have GL := Aside0.mk (by rw [hg]; exact below_size HB.out : W.heap.size ≤ gL); have NTL := Aside0.mk (by rw [hg]; exact lt1 BT.out : gT ≠ gL); have NLT := Aside0.mk (by rw [hg]; exact gt1 BT.out : gL ≠ gT); have NRL := Aside0.mk (by rw [hg]; exact lt1 BR.out : gR ≠ gL); have NGL := Aside0.mk (by rw [hg]; exact lt1 HI.out.blk : g ≠ gL); replace HI := Aside0.mk (HI.out.below hb); clear hbox hg; replace BT := Aside0.mk (bb hb BT.out); replace BR := Aside0.mk (bb hb BR.out); replace HB := Aside0.mk (below_step HB.out hb); replace HF := Aside0.mk (Kd.F_below HF.out hb); clear hb z0 z1 z2 z3 f0 f1 f2 f3 r0 r1 r2 r3 rf0 rf1 rf2 rf3; obtain ⟨z0, z1, z2, z3, f0, f1, f2, f3⟩ := cz4 BT.out; obtain ⟨r0, r1, r2, r3, rf0, rf1, rf2, rf3⟩ := cz4 BR.out; have lz0 := (blk_cell BL.out 0).trans (show _ = some (Value.slice none 0 0) from rfl); have lf0 := blk_frozen BL.out 0; have nTL := NTL.out; have nLT := NLT.out))
  have hBT := blk_far (p := ⟨gL, 0, none⟩) BT.out NTL.out (.slice (some ⟨g, 0, none⟩) (m + 1) cap)
  have hBR := blk_far (p := ⟨gL, 0, none⟩) BR.out NRL.out (.slice (some ⟨g, 0, none⟩) (m + 1) cap)
  have hBL := blk_put BL.out 0 (.slice (some ⟨g, 0, none⟩) (m + 1) cap) rfl
  have hHI := HI.out.far (p := ⟨gL, 0, none⟩) NGL.out (.slice (some ⟨g, 0, none⟩) (m + 1) cap)
  have hHF := Kd.F_far (p := ⟨gL, 0, none⟩) HF.out (fun k hk => by have := GL.out; have := hk.2; show k ≠ gL; omega) (.slice (some ⟨g, 0, none⟩) (m + 1) cap)
  have hHB := below_set (j := 0) (v := .slice (some ⟨g, 0, none⟩) (m + 1) cap) HB.out GL.out
  generalize hw5 : wL.setCell ⟨gL, 0, none⟩ (.slice (some ⟨g, 0, none⟩) (m + 1) cap) = w5 at hBT hBR hBL hHI hHF hHB ⊢
  clear hw5 z0 z1 z2 z3 f0 f1 f2 f3 r0 r1 r2 r3 rf0 rf1 rf2 rf3 lz0 lf0 BT BR BL HI HF HB
  have BT := Aside0.mk hBT
  have BR := Aside0.mk hBR
  have BL := Aside0.mk hBL
  have HI := Aside0.mk hHI
  have HF := Aside0.mk hHF
  have HB := Aside0.mk hHB
  clear hBT hBR hBL hHI hHF hHB
  obtain ⟨z0, z1, z2, z3, f0, f1, f2, f3⟩ := cz4 BT.out
  obtain ⟨r0, r1, r2, r3, rf0, rf1, rf2, rf3⟩ := cz4 BR.out
  have lz0 := (blk_cell BL.out 0).trans (show _ = some (Value.slice (some ⟨g, 0, none⟩) (m + 1) cap) from rfl)
  have lf0 := blk_frozen BL.out 0
  cases back with
  | false =>
    have hT0 : turnL false ps = ps.drop m ++ ps.take m := by unfold turnL; rw [if_neg (by decide), HM.out, Nat.add_sub_cancel]
    rw [hT0] at NAM2 HT
    have HCAT : Aside0 (∀ (W' : World), Below w5.heap.size w5 W' → W'.heap[w5.heap.size]? = some (.cells #[.slice (some ⟨g, m, none⟩) 1 (cap - m), .slice (some ⟨g, 0, none⟩) m cap] 22 (0, 0)) → Calls Try.prog 80 #[.slice (some ⟨w5.heap.size, 0, none⟩) 2 2] W' fun e w' => ∃ g2 cap2, ∃ cells2 : Array Value, e = .returned (.slice (some ⟨g2, 0, none⟩) (m + 1) cap2) ∧ W'.heap.size ≤ g2 ∧ m + 1 ≤ cap2 ∧ IntsAt w' g2 cells2 (ps.drop m ++ ps.take m) ∧ Below W'.heap.size W' w') := ⟨fun W' hb hB => cat_rows (HI.out.below hb) w5.heap.size m 0 1 m (cap - m) cap hB (ps.drop m ++ ps.take m) (by rw [List.take_of_length_le (by rw [List.length_drop, HM.out]; omega), List.drop_zero]) (by rw [HT.out]) (by rw [List.length_take, List.length_drop, HM.out]; omega) (by rw [List.length_take, List.length_drop, HM.out]; omega) (by omega) (by omega)⟩
    have k1 : (m : Int) ≤ (cap : Int) := by have := Q2.out; omega
    have k2 : (0 : Int) ≤ (m : Int) := by omega
    have k3 : (m : Int) ≤ (m : Int) + 1 := by omega
    have k4 : (cap = m) = False := eq_false (by have := Q2.out; omega)
    go_upto_region 7 with (fail)
    go_region_with (first | (go_at_call 80; refine (HCAT.out _ ?_ ?_).mono ?_; (exact below_drew (below_alloc (Below.refl _ _) _)); (exact blk_drew (heap_alloc_new _ _)); rintro e w80 ⟨g2, cap2, cells2, rfl, q1, q2, q3, hb⟩; have HB8 := Aside0.mk ((below_drew (below_alloc (Below.refl _ w5) _)).trans (hb.mono (show w5.heap.size ≤ _ from by have hz : w5.heap.size ≤ (w5.alloc (.cells #[.slice (some ⟨g, m, none⟩) 1 (cap - m), .slice (some ⟨g, 0, none⟩) m cap] 22)).heap.size := (by rw [World.size_alloc]; exact Nat.le_succ _); exact hz)) : Below w5.heap.size w5 w80); have HI2 := Aside0.mk q3; have G2 := Aside0.mk (Nat.le_trans (show w5.heap.size ≤ (w5.alloc (.cells #[.slice (some ⟨g, m, none⟩) 1 (cap - m), .slice (some ⟨g, 0, none⟩) m cap] 22)).heap.size from by rw [World.size_alloc]; exact Nat.le_succ _) q1 : w5.heap.size ≤ g2); have CP2 := Aside0.mk q2; have lz1 := (HB8.out.cell (World.block_lt_of_cell? w5 _ lz0)).trans lz0; have lf1 := blk_frozen (bb HB8.out BL.out) 0; clear q1 q2 q3))
    all_goals
      have hBT := blk_far (p := ⟨gL, 0, none⟩) (bb HB8.out BT.out) NTL.out (.slice (some ⟨g2, 0, none⟩) (m + 1) cap2)
      have hBR := blk_far (p := ⟨gL, 0, none⟩) (bb HB8.out BR.out) NRL.out (.slice (some ⟨g2, 0, none⟩) (m + 1) cap2)
      have hBL := blk_put (bb HB8.out BL.out) 0 (.slice (some ⟨g2, 0, none⟩) (m + 1) cap2) rfl
      have NGL2 : Aside0 (g2 ≠ gL) := ⟨by have := blk_lt BL.out; have := G2.out; omega⟩
      have hHI := HI2.out.far (p := ⟨gL, 0, none⟩) NGL2.out (.slice (some ⟨g2, 0, none⟩) (m + 1) cap2)
      have hHF := Kd.F_far (p := ⟨gL, 0, none⟩) (Kd.F_below HF.out HB8.out) (fun k hk => by have := GL.out; have := hk.2; show k ≠ gL; omega) (.slice (some ⟨g2, 0, none⟩) (m + 1) cap2)
      have hHB := below_set (j := 0) (v := .slice (some ⟨g2, 0, none⟩) (m + 1) cap2) (below_step HB.out HB8.out) GL.out
      generalize hw9 : w80.setCell ⟨gL, 0, none⟩ (.slice (some ⟨g2, 0, none⟩) (m + 1) cap2) = w85 at hBT hBR hBL hHI hHF hHB ⊢
      have hF9 := hHI.F
      have hn := NAM2.out
      rw [HT.out] at hn hF9
      have hnam := hn w85 _ _ A c hHF HCC.out gL (some ⟨g2, 0, none⟩) cap2 hBL CP2.out hF9 (fun j hj => by rw [hj]; exact NGL2.out) (fun j hj => by have := GL.out; have := hj.2; omega)
      clear hw9 hn hF9 z0 z1 z2 z3 f0 f1 f2 f3 r0 r1 r2 r3 rf0 rf1 rf2 rf3 lz0 lf0 lz1 lf1 HI2 HB8 BT BR BL HI HF HB
      have HNAM := Aside0.mk hnam
      have BT := Aside0.mk hBT
      have BR := Aside0.mk hBR
      have HB := Aside0.mk hHB
      clear hnam hBT hBR hBL hHI hHF hHB
      obtain ⟨z0, z1, z2, z3, f0, f1, f2, f3⟩ := cz4 BT.out
      obtain ⟨r0, r1, r2, r3, rf0, rf1, rf2, rf3⟩ := cz4 BR.out
      go_wp2_with (first | (go_at_call 81; refine HNAM.out.mono ?_; rintro e wN ⟨v, NA, nc, rfl, ⟨A5, c5, rfl, h5, hF5⟩, hbn, hln, hFN, hO⟩; have HWL := Aside0.mk (HB.out.size); have HRL := Aside0.mk (blk_lt BR.out); have HF5 := Aside0.mk (F_cut hF5); have H5 := Aside0.mk h5; replace BR := Aside0.mk ((hO.others _ (blk_lt BR.out) NRL.out).trans BR.out); replace HB := Aside0.mk (HB.out.trans (hO.bel.mono GL.out)); clear hF5 h5 hbn hln hFN hO z0 z1 z2 z3 f0 f1 f2 f3 r0 r1 r2 r3 rf0 rf1 rf2 rf3; obtain ⟨r0, r1, r2, r3, rf0, rf1, rf2, rf3⟩ := cz4 BR.out) | ((with_reducible refine gate_store (t := 31) (p := 8) rfl ?_); go_loud (refine store_event (t := 31) (p := 8) (v := ?vt1) (w1 := ((((wN.setCell ⟨gR, 0, none⟩ (.int .i64 r.1.f0)).setCell ⟨gR, 1, none⟩ (.int .i64 r.1.f1)).setCell ⟨gR, 2, none⟩ (.int .i64 r.1.f2)).setCell ⟨gR, 3, none⟩ (.slice A5 r.1.f3.length c5))) ?hg ?ho ?hn ?hr ?_; (case ho => rfl); (case hg => rfl); (case hn => rfl); (case hr => first | (go_simp; done) | (go_simp; rfl)); intro w9 hw; have N1 : Aside0 (w9.heap[gR]? = some (.cells #[.int .i64 r.1.f0, .int .i64 r.1.f1, .int .i64 r.1.f2, .slice A5 r.1.f3.length c5] 31 (0, 0))) := ⟨by rw [hw]; exact put4 BR.out⟩; have N2 : Aside0 (Below W.heap.size W w9) := ⟨by rw [hw]; exact below_set (below_set (below_set (below_set HB.out GR.out) GR.out) GR.out) GR.out⟩; have N3 := Aside0.mk (show Kd.F k31 w9 _ A5 _ _ from by rw [hw]; exact F_far4 HF5.out (fun k hk => by have := GR.out; have := HRL.out; have := hk.1; have := hk.2; show k ≠ gR; omega)); clear r0 r1 r2 r3 rf0 rf1 rf2 rf3; clear hw)))
      obtain ⟨s0, s1, s2, s3, _, _, _, _⟩ := cz4 N1.out
      refine bodyPost_ret (v := .tuple #[.agg #[.int .i64 r.1.f0, .int .i64 r.1.f1, .int .i64 r.1.f2, .slice A5 r.1.f3.length c5], .int .i64 0]) (by simp [results, Try.results41, go_sem, s0, s1, s2, s3]) rfl ?_
      exact ⟨_, rfl, ⟨A5, c5, rfl, H5.out, Kd.F_mono N3.out (fun k hk => hk.1.elim (fun h => .inl h.1) (fun h => .inr (Nat.le_trans HWL.out h)))⟩, N2.out⟩
  | true =>
    have hT0 : turnL true ps = ps.drop 1 ++ ps.take 1 := by unfold turnL; rw [if_pos rfl]
    rw [hT0] at NAM2 HT
    have k1 : (1 : Int) ≤ (cap : Int) := by have := Q2.out; omega
    have k2 : (0 : Int) ≤ (m : Int) := by omega
    have k3 : (1 : Int) ≤ (m : Int) + 1 := by omega
    have HCAT : Aside0 (∀ (W' : World), Below w5.heap.size w5 W' → W'.heap[w5.heap.size]? = some (.cells #[.slice (some (if cap = 1 then ⟨g, 0, none⟩ else ⟨g, 1, none⟩)) m (cap - 1), .slice (some ⟨g, 0, none⟩) 1 cap] 22 (0, 0)) → Calls Try.prog 80 #[.slice (some ⟨w5.heap.size, 0, none⟩) 2 2] W' fun e w' => ∃ g2 cap2, ∃ cells2 : Array Value, e = .returned (.slice (some ⟨g2, 0, none⟩) (m + 1) cap2) ∧ W'.heap.size ≤ g2 ∧ m + 1 ≤ cap2 ∧ IntsAt w' g2 cells2 (ps.drop 1 ++ ps.take 1) ∧ Below W'.heap.size W' w') := ⟨fun W' hb hB => by
      by_cases hc1 : cap = 1
      · rw [if_pos hc1] at hB
        have hm0 : m = 0 := by have := Q2.out; omega
        exact cat_rows (HI.out.below hb) w5.heap.size 0 0 m 1 (cap - 1) cap hB (ps.drop 1 ++ ps.take 1) (by rw [show ps.drop 1 = [] from List.drop_eq_nil_of_le (by rw [HM.out]; omega), hm0, List.take_zero, List.drop_zero]) (by rw [HT.out]) (by rw [hm0]; rfl) (by rw [List.length_take, List.length_drop, HM.out]; omega) (by omega) (by omega)
      · rw [if_neg hc1] at hB
        exact cat_rows (HI.out.below hb) w5.heap.size 1 0 m 1 (cap - 1) cap hB (ps.drop 1 ++ ps.take 1) (by rw [List.take_of_length_le (by rw [List.length_drop, HM.out]; omega), List.drop_zero]) (by rw [HT.out]) (by rw [List.length_take, List.length_drop, HM.out]; omega) (by rw [List.length_take, List.length_drop, HM.out]; omega) (by omega) (by omega)⟩
    by_cases hc1 : cap = 1
    · rw [if_pos hc1] at HCAT
      have k4 : (cap = 1) = True := eq_true hc1
      clear hc1
      go_upto_region 6 with (fail)
      go_region_with (first | (go_at_call 80; refine (HCAT.out _ ?_ ?_).mono ?_; (exact below_drew (below_alloc (Below.refl _ _) _)); (exact blk_drew (heap_alloc_new _ _)); rintro e w80 ⟨g2, cap2, cells2, rfl, q1, q2, q3, hb⟩; have HB8 := Aside0.mk ((below_drew (below_alloc (Below.refl _ w5) _)).trans (hb.mono (show w5.heap.size ≤ _ from by have hz : w5.heap.size ≤ (w5.alloc (.cells #[.slice (some ⟨g, 0, none⟩) m (cap - 1), .slice (some ⟨g, 0, none⟩) 1 cap] 22)).heap.size := (by rw [World.size_alloc]; exact Nat.le_succ _); exact hz)) : Below w5.heap.size w5 w80); have HI2 := Aside0.mk q3; have G2 := Aside0.mk (Nat.le_trans (show w5.heap.size ≤ (w5.alloc (.cells #[.slice (some ⟨g, 0, none⟩) m (cap - 1), .slice (some ⟨g, 0, none⟩) 1 cap] 22)).heap.size from by rw [World.size_alloc]; exact Nat.le_succ _) q1 : w5.heap.size ≤ g2); have CP2 := Aside0.mk q2; have lz1 := (HB8.out.cell (World.block_lt_of_cell? w5 _ lz0)).trans lz0; have lf1 := blk_frozen (bb HB8.out BL.out) 0; clear q1 q2 q3))
      all_goals
        have hBT := blk_far (p := ⟨gL, 0, none⟩) (bb HB8.out BT.out) NTL.out (.slice (some ⟨g2, 0, none⟩) (m + 1) cap2)
        have hBR := blk_far (p := ⟨gL, 0, none⟩) (bb HB8.out BR.out) NRL.out (.slice (some ⟨g2, 0, none⟩) (m + 1) cap2)
        have hBL := blk_put (bb HB8.out BL.out) 0 (.slice (some ⟨g2, 0, none⟩) (m + 1) cap2) rfl
        have NGL2 : Aside0 (g2 ≠ gL) := ⟨by have := blk_lt BL.out; have := G2.out; omega⟩
        have hHI := HI2.out.far (p := ⟨gL, 0, none⟩) NGL2.out (.slice (some ⟨g2, 0, none⟩) (m + 1) cap2)
        have hHF := Kd.F_far (p := ⟨gL, 0, none⟩) (Kd.F_below HF.out HB8.out) (fun k hk => by have := GL.out; have := hk.2; show k ≠ gL; omega) (.slice (some ⟨g2, 0, none⟩) (m + 1) cap2)
        have hHB := below_set (j := 0) (v := .slice (some ⟨g2, 0, none⟩) (m + 1) cap2) (below_step HB.out HB8.out) GL.out
        generalize hw9 : w80.setCell ⟨gL, 0, none⟩ (.slice (some ⟨g2, 0, none⟩) (m + 1) cap2) = w85 at hBT hBR hBL hHI hHF hHB ⊢
        have hF9 := hHI.F
        have hn := NAM2.out
        rw [HT.out] at hn hF9
        have hnam := hn w85 _ _ A c hHF HCC.out gL (some ⟨g2, 0, none⟩) cap2 hBL CP2.out hF9 (fun j hj => by rw [hj]; exact NGL2.out) (fun j hj => by have := GL.out; have := hj.2; omega)
        clear hw9 hn hF9 z0 z1 z2 z3 f0 f1 f2 f3 r0 r1 r2 r3 rf0 rf1 rf2 rf3 lz0 lf0 lz1 lf1 HI2 HB8 BT BR BL HI HF HB
        have HNAM := Aside0.mk hnam
        have BT := Aside0.mk hBT
        have BR := Aside0.mk hBR
        have HB := Aside0.mk hHB
        clear hnam hBT hBR hBL hHI hHF hHB
        obtain ⟨z0, z1, z2, z3, f0, f1, f2, f3⟩ := cz4 BT.out
        obtain ⟨r0, r1, r2, r3, rf0, rf1, rf2, rf3⟩ := cz4 BR.out
        go_wp2_with (first | (go_at_call 81; refine HNAM.out.mono ?_; rintro e wN ⟨v, NA, nc, rfl, ⟨A5, c5, rfl, h5, hF5⟩, hbn, hln, hFN, hO⟩; have HWL := Aside0.mk (HB.out.size); have HRL := Aside0.mk (blk_lt BR.out); have HF5 := Aside0.mk (F_cut hF5); have H5 := Aside0.mk h5; replace BR := Aside0.mk ((hO.others _ (blk_lt BR.out) NRL.out).trans BR.out); replace HB := Aside0.mk (HB.out.trans (hO.bel.mono GL.out)); clear hF5 h5 hbn hln hFN hO z0 z1 z2 z3 f0 f1 f2 f3 r0 r1 r2 r3 rf0 rf1 rf2 rf3; obtain ⟨r0, r1, r2, r3, rf0, rf1, rf2, rf3⟩ := cz4 BR.out) | ((with_reducible refine gate_store (t := 31) (p := 8) rfl ?_); go_loud (refine store_event (t := 31) (p := 8) (v := ?vt2) (w1 := ((((wN.setCell ⟨gR, 0, none⟩ (.int .i64 r.1.f0)).setCell ⟨gR, 1, none⟩ (.int .i64 r.1.f1)).setCell ⟨gR, 2, none⟩ (.int .i64 r.1.f2)).setCell ⟨gR, 3, none⟩ (.slice A5 r.1.f3.length c5))) ?hg ?ho ?hn ?hr ?_; (case ho => rfl); (case hg => rfl); (case hn => rfl); (case hr => first | (go_simp; done) | (go_simp; rfl)); intro w9 hw; have N1 : Aside0 (w9.heap[gR]? = some (.cells #[.int .i64 r.1.f0, .int .i64 r.1.f1, .int .i64 r.1.f2, .slice A5 r.1.f3.length c5] 31 (0, 0))) := ⟨by rw [hw]; exact put4 BR.out⟩; have N2 : Aside0 (Below W.heap.size W w9) := ⟨by rw [hw]; exact below_set (below_set (below_set (below_set HB.out GR.out) GR.out) GR.out) GR.out⟩; have N3 := Aside0.mk (show Kd.F k31 w9 _ A5 _ _ from by rw [hw]; exact F_far4 HF5.out (fun k hk => by have := GR.out; have := HRL.out; have := hk.1; have := hk.2; show k ≠ gR; omega)); clear r0 r1 r2 r3 rf0 rf1 rf2 rf3; clear hw)))
        obtain ⟨s0, s1, s2, s3, _, _, _, _⟩ := cz4 N1.out
        refine bodyPost_ret (v := .tuple #[.agg #[.int .i64 r.1.f0, .int .i64 r.1.f1, .int .i64 r.1.f2, .slice A5 r.1.f3.length c5], .int .i64 0]) (by simp [results, Try.results41, go_sem, s0, s1, s2, s3]) rfl ?_
        exact ⟨_, rfl, ⟨A5, c5, rfl, H5.out, Kd.F_mono N3.out (fun k hk => hk.1.elim (fun h => .inl h.1) (fun h => .inr (Nat.le_trans HWL.out h)))⟩, N2.out⟩
    · rw [if_neg hc1] at HCAT
      have k4 : (cap = 1) = False := eq_false hc1
      clear hc1
      go_upto_region 6 with (fail)
      go_region_with (first | (go_at_call 80; refine (HCAT.out _ ?_ ?_).mono ?_; (exact below_drew (below_alloc (Below.refl _ _) _)); (exact blk_drew (heap_alloc_new _ _)); rintro e w80 ⟨g2, cap2, cells2, rfl, q1, q2, q3, hb⟩; have HB8 := Aside0.mk ((below_drew (below_alloc (Below.refl _ w5) _)).trans (hb.mono (show w5.heap.size ≤ _ from by have hz : w5.heap.size ≤ (w5.alloc (.cells #[.slice (some ⟨g, 1, none⟩) m (cap - 1), .slice (some ⟨g, 0, none⟩) 1 cap] 22)).heap.size := (by rw [World.size_alloc]; exact Nat.le_succ _); exact hz)) : Below w5.heap.size w5 w80); have HI2 := Aside0.mk q3; have G2 := Aside0.mk (Nat.le_trans (show w5.heap.size ≤ (w5.alloc (.cells #[.slice (some ⟨g, 1, none⟩) m (cap - 1), .slice (some ⟨g, 0, none⟩) 1 cap] 22)).heap.size from by rw [World.size_alloc]; exact Nat.le_succ _) q1 : w5.heap.size ≤ g2); have CP2 := Aside0.mk q2; have lz1 := (HB8.out.cell (World.block_lt_of_cell? w5 _ lz0)).trans lz0; have lf1 := blk_frozen (bb HB8.out BL.out) 0; clear q1 q2 q3))
      all_goals
        have hBT := blk_far (p := ⟨gL, 0, none⟩) (bb HB8.out BT.out) NTL.out (.slice (some ⟨g2, 0, none⟩) (m + 1) cap2)
        have hBR := blk_far (p := ⟨gL, 0, none⟩) (bb HB8.out BR.out) NRL.out (.slice (some ⟨g2, 0, none⟩) (m + 1) cap2)
        have hBL := blk_put (bb HB8.out BL.out) 0 (.slice (some ⟨g2, 0, none⟩) (m + 1) cap2) rfl
        have NGL2 : Aside0 (g2 ≠ gL) := ⟨by have := blk_lt BL.out; have := G2.out; omega⟩
        have hHI := HI2.out.far (p := ⟨gL, 0, none⟩) NGL2.out (.slice (some ⟨g2, 0, none⟩) (m + 1) cap2)
        have hHF := Kd.F_far (p := ⟨gL, 0, none⟩) (Kd.F_below HF.out HB8.out) (fun k hk => by have := GL.out; have := hk.2; show k ≠ gL; omega) (.slice (some ⟨g2, 0, none⟩) (m + 1) cap2)
        have hHB := below_set (j := 0) (v := .slice (some ⟨g2, 0, none⟩) (m + 1) cap2) (below_step HB.out HB8.out) GL.out
        generalize hw9 : w80.setCell ⟨gL, 0, none⟩ (.slice (some ⟨g2, 0, none⟩) (m + 1) cap2) = w85 at hBT hBR hBL hHI hHF hHB ⊢
        have hF9 := hHI.F
        have hn := NAM2.out
        rw [HT.out] at hn hF9
        have hnam := hn w85 _ _ A c hHF HCC.out gL (some ⟨g2, 0, none⟩) cap2 hBL CP2.out hF9 (fun j hj => by rw [hj]; exact NGL2.out) (fun j hj => by have := GL.out; have := hj.2; omega)
        clear hw9 hn hF9 z0 z1 z2 z3 f0 f1 f2 f3 r0 r1 r2 r3 rf0 rf1 rf2 rf3 lz0 lf0 lz1 lf1 HI2 HB8 BT BR BL HI HF HB
        have HNAM := Aside0.mk hnam
        have BT := Aside0.mk hBT
        have BR := Aside0.mk hBR
        have HB := Aside0.mk hHB
        clear hnam hBT hBR hBL hHI hHF hHB
        obtain ⟨z0, z1, z2, z3, f0, f1, f2, f3⟩ := cz4 BT.out
        obtain ⟨r0, r1, r2, r3, rf0, rf1, rf2, rf3⟩ := cz4 BR.out
        go_wp2_with (first | (go_at_call 81; refine HNAM.out.mono ?_; rintro e wN ⟨v, NA, nc, rfl, ⟨A5, c5, rfl, h5, hF5⟩, hbn, hln, hFN, hO⟩; have HWL := Aside0.mk (HB.out.size); have HRL := Aside0.mk (blk_lt BR.out); have HF5 := Aside0.mk (F_cut hF5); have H5 := Aside0.mk h5; replace BR := Aside0.mk ((hO.others _ (blk_lt BR.out) NRL.out).trans BR.out); replace HB := Aside0.mk (HB.out.trans (hO.bel.mono GL.out)); clear hF5 h5 hbn hln hFN hO z0 z1 z2 z3 f0 f1 f2 f3 r0 r1 r2 r3 rf0 rf1 rf2 rf3; obtain ⟨r0, r1, r2, r3, rf0, rf1, rf2, rf3⟩ := cz4 BR.out) | ((with_reducible refine gate_store (t := 31) (p := 8) rfl ?_); go_loud (refine store_event (t := 31) (p := 8) (v := ?vt3) (w1 := ((((wN.setCell ⟨gR, 0, none⟩ (.int .i64 r.1.f0)).setCell ⟨gR, 1, none⟩ (.int .i64 r.1.f1)).setCell ⟨gR, 2, none⟩ (.int .i64 r.1.f2)).setCell ⟨gR, 3, none⟩ (.slice A5 r.1.f3.length c5))) ?hg ?ho ?hn ?hr ?_; (case ho => rfl); (case hg => rfl); (case hn => rfl); (case hr => first | (go_simp; done) | (go_simp; rfl)); intro w9 hw; have N1 : Aside0 (w9.heap[gR]? = some (.cells #[.int .i64 r.1.f0, .int .i64 r.1.f1, .int .i64 r.1.f2, .slice A5 r.1.f3.length c5] 31 (0, 0))) := ⟨by rw [hw]; exact put4 BR.out⟩; have N2 : Aside0 (Below W.heap.size W w9) := ⟨by rw [hw]; exact below_set (below_set (below_set (below_set HB.out GR.out) GR.out) GR.out) GR.out⟩; have N3 := Aside0.mk (show Kd.F k31 w9 _ A5 _ _ from by rw [hw]; exact F_far4 HF5.out (fun k hk => by have := GR.out; have := HRL.out; have := hk.1; have := hk.2; show k ≠ gR; omega)); clear r0 r1 r2 r3 rf0 rf1 rf2 rf3; clear hw)))
        obtain ⟨s0, s1, s2, s3, _, _, _, _⟩ := cz4 N1.out
        refine bodyPost_ret (v := .tuple #[.agg #[.int .i64 r.1.f0, .int .i64 r.1.f1, .int .i64 r.1.f2, .slice A5 r.1.f3.length c5], .int .i64 0]) (by simp [results, Try.results41, go_sem, s0, s1, s2, s3]) rfl ?_
        exact ⟨_, rfl, ⟨A5, c5, rfl, H5.out, Kd.F_mono N3.out (fun k hk => hk.1.elim (fun h => .inl h.1) (fun h => .inr (Nat.le_trans HWL.out h)))⟩, N2.out⟩
end Go.Proofs.Ytplngfammfdemaa
end
section
namespace Go.Proofs.Ytplngfammfdemaa
open Go.RowKit Go.Proofs.YtplngfammfdemaaW.PrintWords Go.Proofs.YtplngfammfdemaaW.PrintLast Go.Proofs.YtplngfammfdemaaW.PrintMore Q
set_option linter.unusedVariables false
set_option linter.unusedSimpArgs false
theorem swapL_same (l : List Int) (a : Int) (h : a ∈ l) : swapL l a a = l := by
  have hlt : l.idxOf a < l.length := List.idxOf_lt_length_iff.2 h
  have e : l.set (l.idxOf a) a = l := by
    have h2 := List.set_getElem_self hlt
    rw [List.getElem_idxOf hlt] at h2
    exact h2
  unfold swapL
  rw [e, e]
theorem idxZ_of (c : Int) (l : List Int) (h : c ∈ l) : idxZ c l = (l.idxOf c : Int) ∧ l.idxOf c < l.length := by
  have hlt : l.idxOf c < l.length := List.idxOf_lt_length_iff.2 h
  refine ⟨idxZ_at hlt (fun j hj e => ?_) (List.getElem_idxOf hlt).symm, hlt⟩
  have h2 := List.not_of_lt_findIdx hj
  rw [← e] at h2
  simp at h2
set_option maxHeartbeats 8000000 in
set_option maxRecDepth 100000 in
theorem Swap_do {t : S31} {w h : Int} (hr : RightT t w h) {a b : Int} (ha : a ∈ psA t) (hb : b ∈ psA t) (W : World) (ok : Nat → Prop) (A : Option Addr) (c : Nat) (hF : Kd.F k31 W ok A t.f3.length t.f3) (hc : t.f3.length ≤ c) :
    Calls Try.prog 43 #[.agg #[.int .i64 t.f0, .int .i64 t.f1, .int .i64 t.f2, .slice A t.f3.length c], .int .i64 w, .int .i64 h, .int .i64 a, .int .i64 b] W fun e w' => TreeErr W w' ok e (namedR R0 t (swapL (psA t) a b)).1 0 := by
  have hu31 := Try.underlying31
  have hu22 := Try.underlying22
  have hu121 := Try.underlying121
  obtain ⟨KR, hK⟩ := right_yes hr
  have HR := Aside0.mk (hK KR (Nat.le_refl _))
  have HF := Aside0.mk (F_cut hF)
  have HCC := Aside0.mk hc
  have HB := Aside0.mk (Below.refl W.heap.size W)
  have hfew := hr.few
  have hh5 := hr.h5
  have hpan := panes_mk (psA t).length t w h hr.ok hr.w1 hr.w8 hr.h1 (by omega) _ (Nat.le_refl _)
  rw [ps_at hr] at hpan
  have hpos := ps_pos _ t w h hr.ok
  rw [ps_at hr] at hpos
  have hrange := ps_range _ t w h hr.ok
  rw [ps_at hr] at hrange
  obtain ⟨m, hm⟩ : ∃ m, (psA t).length = m + 1 := ⟨(psA t).length - 1, by omega⟩
  have HCOL : Aside0 (∀ (W' : World) (B : Nat) (A : Option Addr) (c : Nat), W'.heap[B]? = some (.cells (treeC t A c) 31 (0, 0)) → Kd.C k31 W' A t.f3.length t.f3 → Calls Try.prog 79 #[.func (.func 97) #[] #[.pointer (some ⟨B, 0, none⟩)]] W' fun e w' => ∃ g cap, ∃ cells : Array Value, e = .returned (.slice (some ⟨g, 0, none⟩) (m + 1) cap) ∧ W'.heap.size ≤ g ∧ m + 1 ≤ cap ∧ cap ≤ maxLen ∧ cells.size = cap ∧ IntsAt w' g cells (psA t) ∧ Below W'.heap.size W' w') := ⟨fun W' B A c hB hC => (collect_panes W' B t A c _ hB hC _ hpan (by omega)).mono (by
    rintro e w' ⟨v, rfl, ho, hb⟩
    obtain ⟨g, cap, cells, rfl, q1, q2, q3, q4, q5⟩ := IntsAt.of_own ho (by omega) (by omega)
    rw [hm] at q2 ⊢
    exact ⟨g, cap, cells, rfl, q1, q2, q3, q4, q5, hb⟩)⟩
  have NAM : Aside0 (∀ (l : List Int), l.length = (psA t).length → (∀ q ∈ l, q ∈ psA t) → ∀ (W' : World) (ok' okN : Nat → Prop) (A : Option Addr) (c : Nat), Kd.F k31 W' ok' A t.f3.length t.f3 → t.f3.length ≤ c → ∀ (nb : Nat) (NA : Option Addr) (nc : Nat), W'.heap[nb]? = some (.cells #[.slice NA l.length nc] 22 (0, 0)) → l.length ≤ nc → Kd.F (Kd.int .i64) W' okN NA l.length l → (∀ j, okN j → j ≠ nb) → (∀ j, ok' j → j ≠ nb) → Calls Try.prog 81 #[.agg #[.int .i64 t.f0, .int .i64 t.f1, .int .i64 t.f2, .slice A t.f3.length c], .pointer (some ⟨nb, 0, none⟩)] W' fun e w' => NamedOut W' w' ok' okN nb e (namedR R0 t l)) := ⟨fun l hl hq W' ok' okN A c hF hc nb NA nc hN hnc hFN h1 h2 => named_calls _ t w h hr.ok hr.w1 hr.w8 hr.h1 (by omega) R0 (by unfold R0; omega) l (by rw [ps_at hr]; omega) (by omega) (fun q hql => hrange q (hq q hql)) W' ok' okN A c hF hc nb NA nc hN hnc hFN h1 h2⟩
  have HHa : Aside0 (∀ (W' : World) (A : Option Addr) (c : Nat), Kd.C k31 W' A t.f3.length t.f3 → Calls Try.prog 74 #[.agg #[.int .i64 t.f0, .int .i64 t.f1, .int .i64 t.f2, .slice A t.f3.length c], .int .i64 a] W' fun e w' => e = .returned (.bool true) ∧ Below W'.heap.size W' w') := ⟨fun W' A c hC => by
    have h := has_mk W' t A c a hr.ok hr.w1 hr.w8 hr.h1 (by have := hr.h5; omega) (by have := hr.few; omega) hC
    unfold hasA at h
    rw [decide_eq_true ha] at h
    exact h⟩
  have HHb : Aside0 (∀ (W' : World) (A : Option Addr) (c : Nat), Kd.C k31 W' A t.f3.length t.f3 → Calls Try.prog 74 #[.agg #[.int .i64 t.f0, .int .i64 t.f1, .int .i64 t.f2, .slice A t.f3.length c], .int .i64 b] W' fun e w' => e = .returned (.bool true) ∧ Below W'.heap.size W' w') := ⟨fun W' A c hC => by
    have h := has_mk W' t A c b hr.ok hr.w1 hr.w8 hr.h1 (by have := hr.h5; omega) (by have := hr.few; omega) hC
    unfold hasA at h
    rw [decide_eq_true hb] at h
    exact h⟩
  have NAM2 := Aside0.mk (NAM.out (swapL (psA t) a b) (by unfold swapL; rw [List.length_set, List.length_set]) (fun q hq => by
    by_cases hab : a = b
    · subst hab
      rw [swapL_same _ _ ha] at hq
      exact hq
    · rw [swapL_map _ a b hr.nd ha hb hab] at hq; exact mem_swp _ a b q ha hb hq))
  have HT : Aside0 ((swapL (psA t) a b).length = m + 1) := ⟨by unfold swapL; rw [List.length_set, List.length_set, hm]⟩
  have hm8 : m ≤ 7 := by omega
  obtain ⟨ia, iaL⟩ := idxZ_of a (psA t) ha
  obtain ⟨ib, ibL⟩ := idxZ_of b (psA t) hb
  have HIX : Aside0 (∀ (W' : World) (g cap : Nat) (cells : Array Value) (x : Int), IntsAt W' g cells (psA t) → Calls Try.prog 87 #[.slice (some ⟨g, 0, none⟩) (m + 1) cap, .int .i64 x] W' fun e w' => e = .returned (.int .i64 (idxZ x (psA t))) ∧ W' = w') := ⟨fun W' g cap cells x hI => by
    have h := index_any (some ⟨g, 0, none⟩) cap (psA t) x W' hI.C (by omega) _ rfl
    rw [hm] at h
    exact h⟩
  have HIA := Aside0.mk (fun (W' : World) (g cap : Nat) (cells : Array Value) (hI : IntsAt W' g cells (psA t)) => HIX.out W' g cap cells a hI)
  have HIB := Aside0.mk (fun (W' : World) (g cap : Nat) (cells : Array Value) (hI : IntsAt W' g cells (psA t)) => HIX.out W' g cap cells b hI)
  rw [ia] at HIA
  rw [ib] at HIB
  have hsw : swapL (psA t) a b = ((psA t).set ((psA t).idxOf a) b).set ((psA t).idxOf b) a := rfl
  rw [hsw] at NAM2 HT ⊢
  generalize hii : (psA t).idxOf a = i at HIA NAM2 HT iaL ⊢
  generalize hjj : (psA t).idxOf b = j at HIB NAM2 HT ibL ⊢
  generalize namedR R0 t (((psA t).set i b).set j a) = r at NAM2 ⊢
  generalize psA t = ps at HCOL NAM2 HT hm HIA HIB iaL ibL
  have HM := Aside0.mk hm
  have HII := Aside0.mk iaL
  have HJJ := Aside0.mk ibL
  have e2 : wrap64 ((m : Int) + 1 - 1) = (m : Int) := by unfold wrap64; omega
  have p1 : (0 ≤ (i : Int)) = True := eq_true (by omega)
  have p2 : ((i : Int) < (m : Int) + 1) = True := eq_true (by omega)
  have p3 : (0 ≤ (j : Int)) = True := eq_true (by omega)
  have p4 : ((j : Int) < (m : Int) + 1) = True := eq_true (by omega)
  clear NAM hr hK hF hc hfew hh5 hpan hpos hrange ha hb HIX ia ib hsw hii hjj iaL ibL hm
  go_enter Try.func43, Try.ntmps43
  go_upto_region 6 with (first | ((with_reducible refine gate_dst (N := 5) rfl ?_); (try (refine gate_guard (by rfl) ?_; dsimp only)); refine box_event ?hg (N := 5) ?hd (cs := #[.int .i64 t.f0, .int .i64 t.f1, .int .i64 t.f2, .slice A t.f3.length c]) (t := 31) ?hr ?_; (case hd => rfl); (case hg => rfl); (case hr => first | (go_simp; done) | (go_simp; rfl)); intro gT hg wT hbox hb; have BT := Aside0.mk hbox; have GT := Aside0.mk (by rw [hg]; exact below_size HB.out : W.heap.size ≤ gT); replace HB := Aside0.mk (below_step HB.out hb); replace HF := Aside0.mk (Kd.F_below HF.out hb); clear hb hbox hg; obtain ⟨z0, z1, z2, z3, f0, f1, f2, f3⟩ := cz4 BT.out) | ((with_reducible refine gate_dst (N := 10) rfl ?_); (try (refine gate_guard (by rfl) ?_; dsimp only)); refine box_event ?hg (N := 10) ?hd (cs := #[.int .i64 0, .int .i64 0, .int .i64 0, .slice none 0 0]) (t := 31) ?hr ?_; (case hd => rfl); (case hg => rfl); (case hr => first | (go_simp; done) | (go_simp; rfl)); intro gR hg wR hbox hb; have BR := Aside0.mk hbox; have GR := Aside0.mk (by rw [hg]; exact below_size HB.out : W.heap.size ≤ gR); have NTR := Aside0.mk (by rw [hg]; exact lt1 BT.out : gT ≠ gR); have NRT := Aside0.mk (by rw [hg]; exact gt1 BT.out : gR ≠ gT); replace BT := Aside0.mk (bb hb BT.out); replace HB := Aside0.mk (below_step HB.out hb); replace HF := Aside0.mk (Kd.F_below HF.out hb); clear hb hbox hg; clear z0 z1 z2 z3 f0 f1 f2 f3; obtain ⟨z0, z1, z2, z3, f0, f1, f2, f3⟩ := cz4 BT.out; obtain ⟨r0, r1, r2, r3, rf0, rf1, rf2, rf3⟩ := cz4 BR.out; have nTR := NTR.out; have nRT := NRT.out) | (go_at_call 19; refine (tree_Right.calls KR t.f0 t.f1 t.f2 A c t.f3 w h true _ (Kd.F_now HF.out) HCC.out HR.out).mono ?_; rintro e wA ⟨rfl, hb⟩; replace BT := Aside0.mk (bb hb BT.out); replace BR := Aside0.mk (bb hb BR.out); replace HB := Aside0.mk (below_step HB.out hb); replace HF := Aside0.mk (Kd.F_below HF.out hb); clear hb z0 z1 z2 z3 f0 f1 f2 f3 r0 r1 r2 r3 rf0 rf1 rf2 rf3; obtain ⟨z0, z1, z2, z3, f0, f1, f2, f3⟩ := cz4 BT.out; obtain ⟨r0, r1, r2, r3, rf0, rf1, rf2, rf3⟩ := cz4 BR.out) | (go_at_call 74; first | (with_reducible refine (HHa.out _ A c (Kd.F_now HF.out)).mono ?_; rintro e wH ⟨rfl, hb⟩; replace BT := Aside0.mk (bb hb BT.out); replace BR := Aside0.mk (bb hb BR.out); replace HB := Aside0.mk (below_step HB.out hb); replace HF := Aside0.mk (Kd.F_below HF.out hb); clear hb z0 z1 z2 z3 f0 f1 f2 f3 r0 r1 r2 r3 rf0 rf1 rf2 rf3; obtain ⟨z0, z1, z2, z3, f0, f1, f2, f3⟩ := cz4 BT.out; obtain ⟨r0, r1, r2, r3, rf0, rf1, rf2, rf3⟩ := cz4 BR.out) | (with_reducible refine (HHb.out _ A c (Kd.F_now HF.out)).mono ?_; rintro e wG ⟨rfl, hb⟩; replace BT := Aside0.mk (bb hb BT.out); replace BR := Aside0.mk (bb hb BR.out); replace HB := Aside0.mk (below_step HB.out hb); replace HF := Aside0.mk (Kd.F_below HF.out hb); clear hb z0 z1 z2 z3 f0 f1 f2 f3 r0 r1 r2 r3 rf0 rf1 rf2 rf3; obtain ⟨z0, z1, z2, z3, f0, f1, f2, f3⟩ := cz4 BT.out; obtain ⟨r0, r1, r2, r3, rf0, rf1, rf2, rf3⟩ := cz4 BR.out)) | (go_at_call 60; go_loud (refine (panes_any t A c _).mono ?_; rintro e wP ⟨rfl, hwP⟩; have BX := Aside0.mk (show wP.heap[wG.heap.size]? = some (.cells (treeC t A c) 31 (0, 0)) from by rw [hwP]; exact heap_alloc_new wG _); have hb : Below wG.heap.size wG wP := (by rw [hwP]; exact below_alloc (Below.refl _ _) _); clear hwP; replace BT := Aside0.mk (bb hb BT.out); replace BR := Aside0.mk (bb hb BR.out); replace HB := Aside0.mk (below_step HB.out hb); replace HF := Aside0.mk (Kd.F_below HF.out hb); clear hb z0 z1 z2 z3 f0 f1 f2 f3 r0 r1 r2 r3 rf0 rf1 rf2 rf3; obtain ⟨z0, z1, z2, z3, f0, f1, f2, f3⟩ := cz4 BT.out; obtain ⟨r0, r1, r2, r3, rf0, rf1, rf2, rf3⟩ := cz4 BR.out)) | (go_at_call 79; refine (HCOL.out _ _ A c BX.out (Kd.F_now HF.out)).mono ?_; rintro e wC ⟨g, cap, cells, rfl, q1, q2, q3, q4, q5, hb⟩; have Q1 := Aside0.mk (Nat.le_trans HB.out.size q1 : W.heap.size ≤ g); have GTG := Aside0.mk (Nat.ne_of_lt (Nat.lt_of_lt_of_le (blk_lt BT.out) q1) : gT ≠ g); have GRG := Aside0.mk (Nat.ne_of_lt (Nat.lt_of_lt_of_le (blk_lt BR.out) q1) : gR ≠ g); have Q2 := Aside0.mk q2; have Q3 := Aside0.mk q3; have Q4 := Aside0.mk q4; have HI := Aside0.mk q5; clear q1 q2 q3 q4 q5 BX; replace BT := Aside0.mk (bb hb BT.out); replace BR := Aside0.mk (bb hb BR.out); replace HB := Aside0.mk (below_step HB.out hb); replace HF := Aside0.mk (Kd.F_below HF.out hb); clear hb z0 z1 z2 z3 f0 f1 f2 f3 r0 r1 r2 r3 rf0 rf1 rf2 rf3; obtain ⟨z0, z1, z2, z3, f0, f1, f2, f3⟩ := cz4 BT.out; obtain ⟨r0, r1, r2, r3, rf0, rf1, rf2, rf3⟩ := cz4 BR.out) | ((with_reducible refine gate_dst (N := 12) rfl ?_); (try (refine gate_guard (by rfl) ?_; dsimp only)); refine box_event ?hg (N := 12) ?hd (cs := #[.slice none 0 0]) (t := 22) ?hr ?_; (case hd => rfl); (case hg => rfl); (case hr => first | (go_simp; done) | (go_simp; rfl)); intro gL hg wL hbox hb; have BL := Aside0.mk hbox; have GL := Aside0.mk (by rw [hg]; exact below_size HB.out : W.heap.size ≤ gL); have NTL := Aside0.mk (by rw [hg]; exact lt1 BT.out : gT ≠ gL); have NLT := Aside0.mk (by rw [hg]; exact gt1 BT.out : gL ≠ gT); have NRL := Aside0.mk (by rw [hg]; exact lt1 BR.out : gR ≠ gL); have NGL := Aside0.mk (by rw [hg]; exact lt1 HI.out.blk : g ≠ gL); replace HI := Aside0.mk (HI.out.below hb); clear hbox hg; replace BT := Aside0.mk (bb hb BT.out); replace BR := Aside0.mk (bb hb BR.out); replace HB := Aside0.mk (below_step HB.out hb); replace HF := Aside0.mk (Kd.F_below HF.out hb); clear hb z0 z1 z2 z3 f0 f1 f2 f3 r0 r1 r2 r3 rf0 rf1 rf2 rf3; obtain ⟨z0, z1, z2, z3, f0, f1, f2, f3⟩ := cz4 BT.out; obtain ⟨r0, r1, r2, r3, rf0, rf1, rf2, rf3⟩ := cz4 BR.out; have lz0 := (blk_cell BL.out 0).trans (show _ = some (Value.slice none 0 0) from rfl); have lf0 := blk_frozen BL.out 0; have nTL := NTL.out; have nLT := NLT.out))
  have hBT := blk_far (p := ⟨gL, 0, none⟩) BT.out NTL.out (.slice (some ⟨g, 0, none⟩) (m + 1) cap)
  have hBR := blk_far (p := ⟨gL, 0, none⟩) BR.out NRL.out (.slice (some ⟨g, 0, none⟩) (m + 1) cap)
  have hBL := blk_put BL.out 0 (.slice (some ⟨g, 0, none⟩) (m + 1) cap) rfl
  have hHI := HI.out.far (p := ⟨gL, 0, none⟩) NGL.out (.slice (some ⟨g, 0, none⟩) (m + 1) cap)
  have hHF := Kd.F_far (p := ⟨gL, 0, none⟩) HF.out (fun k hk => by have := GL.out; have := hk.2; show k ≠ gL; omega) (.slice (some ⟨g, 0, none⟩) (m + 1) cap)
  have hHB := below_set (j := 0) (v := .slice (some ⟨g, 0, none⟩) (m + 1) cap) HB.out GL.out
  generalize hw5 : wL.setCell ⟨gL, 0, none⟩ (.slice (some ⟨g, 0, none⟩) (m + 1) cap) = w5 at hBT hBR hBL hHI hHF hHB ⊢
  clear hw5 z0 z1 z2 z3 f0 f1 f2 f3 r0 r1 r2 r3 rf0 rf1 rf2 rf3 lz0 lf0 BT BR BL HI HF HB
  have BT := Aside0.mk hBT
  have BR := Aside0.mk hBR
  have BL := Aside0.mk hBL
  have HI := Aside0.mk hHI
  have HF := Aside0.mk hHF
  have HB := Aside0.mk hHB
  clear hBT hBR hBL hHI hHF hHB
  obtain ⟨z0, z1, z2, z3, f0, f1, f2, f3⟩ := cz4 BT.out
  obtain ⟨r0, r1, r2, r3, rf0, rf1, rf2, rf3⟩ := cz4 BR.out
  have lz0 := (blk_cell BL.out 0).trans (show _ = some (Value.slice (some ⟨g, 0, none⟩) (m + 1) cap) from rfl)
  have lf0 := blk_frozen BL.out 0
  go_region_held3 (fun w' => w'.cell? ⟨gL, 0, none⟩ = some (.slice (some ⟨g, 0, none⟩) (m + 1) cap)) (exact lz0) (first | (go_at_call 87; (first | (with_reducible refine (HIA.out _ _ _ _ (HI.out.below (below_drew (Below.refl _ _)))).mono ?_) | (with_reducible refine (HIB.out _ _ _ _ (HI.out.below (below_drew (Below.refl _ _)))).mono ?_)); rintro e w87 ⟨rfl, rfl⟩))
  have hbd : Below w5.heap.size w5 w5.drew := below_drew (Below.refl _ _)
  generalize w5.drew = w6 at hbd ⊢
  replace BT := Aside0.mk (bb hbd BT.out)
  replace BR := Aside0.mk (bb hbd BR.out)
  replace BL := Aside0.mk (bb hbd BL.out)
  replace HI := Aside0.mk (HI.out.below hbd)
  replace HF := Aside0.mk (Kd.F_below HF.out hbd)
  replace HB := Aside0.mk (below_step HB.out hbd)
  clear hbd z0 z1 z2 z3 f0 f1 f2 f3 r0 r1 r2 r3 rf0 rf1 rf2 rf3 lz0 lf0
  have lz0 := (blk_cell BL.out 0).trans (show _ = some (Value.slice (some ⟨g, 0, none⟩) (m + 1) cap) from rfl)
  have ic := HI.out.cell (j := i) HII.out
  have if0 := blk_frozen HI.out.blk i
  go_upto_region 8 with (first | ((with_reducible refine gate_store (t := 3) (p := 49) rfl ?_); go_loud (refine store_event (t := 3) (p := 49) (v := ?vsa) (w1 := w6.setCell ⟨g, i, none⟩ (.int .i64 b)) ?hg ?ho ?hn ?hr ?_; (case ho => rfl); (case hg => rfl); (case hn => rfl); (case hr => first | (go_simp; done) | (go_simp; rfl)); intro w7 hw7; have HI7 := Aside0.mk (show IntsAt w7 g _ (ps.set i b) from by rw [hw7]; exact HI.out.put HII.out b); have BT7 := Aside0.mk (show w7.heap[gT]? = some (.cells #[.int .i64 t.f0, .int .i64 t.f1, .int .i64 t.f2, .slice A t.f3.length c] 31 (0, 0)) from by rw [hw7]; exact blk_far (p := ⟨g, i, none⟩) BT.out GTG.out _); have BR7 := Aside0.mk (show w7.heap[gR]? = some (.cells #[.int .i64 0, .int .i64 0, .int .i64 0, .slice none 0 0] 31 (0, 0)) from by rw [hw7]; exact blk_far (p := ⟨g, i, none⟩) BR.out GRG.out _); have BL7 := Aside0.mk (show w7.heap[gL]? = some (.cells #[.slice (some ⟨g, 0, none⟩) (m + 1) cap] 22 (0, 0)) from by rw [hw7]; exact blk_far (p := ⟨g, i, none⟩) BL.out (Ne.symm NGL.out) _); have HF7 := Aside0.mk (show Kd.F k31 w7 (fun k => ok k ∧ k < W.heap.size) A t.f3.length t.f3 from by rw [hw7]; exact Kd.F_far (p := ⟨g, i, none⟩) HF.out (fun k hk => by have := Q1.out; have := hk.2; show k ≠ g; omega) _); have HBB := Aside0.mk (show Below W.heap.size W w7 from by rw [hw7]; exact below_set HB.out Q1.out); clear hw7; have jc := HI7.out.cell (j := j) (by rw [List.length_set]; exact HJJ.out); have jf := blk_frozen HI7.out.blk j)))
  have hI8 := HI7.out.put (j := j) (by rw [List.length_set]; exact HJJ.out) a
  have hBT := blk_far (p := ⟨g, j, none⟩) BT7.out GTG.out (.int .i64 a)
  have hBR := blk_far (p := ⟨g, j, none⟩) BR7.out GRG.out (.int .i64 a)
  have hBL := blk_far (p := ⟨g, j, none⟩) BL7.out (Ne.symm NGL.out) (.int .i64 a)
  have hHF := Kd.F_far (p := ⟨g, j, none⟩) HF7.out (fun k hk => by have := Q1.out; have := hk.2; show k ≠ g; omega) (.int .i64 a)
  have hHB := below_set (j := j) (v := .int .i64 a) HBB.out Q1.out
  generalize hw9 : w7.setCell ⟨g, j, none⟩ (.int .i64 a) = w85 at hI8 hBT hBR hBL hHF hHB ⊢
  have hF9 := hI8.F
  have hn := NAM2.out
  rw [HT.out] at hn hF9
  have hnam := hn w85 _ _ A c hHF HCC.out gL (some ⟨g, 0, none⟩) cap hBL Q2.out hF9 (fun j hj => by rw [hj]; exact NGL.out) (fun j hj => by have := GL.out; have := hj.2; omega)
  clear hw9 hn hF9 lz0 ic if0 jc jf HI HI7 BT7 BR7 BL7 HF7 HBB BT BR BL HF HB
  have HNAM := Aside0.mk hnam
  have BT := Aside0.mk hBT
  have BR := Aside0.mk hBR
  have HB := Aside0.mk hHB
  clear hnam hBT hBR hBL hI8 hHF hHB
  obtain ⟨z0, z1, z2, z3, f0, f1, f2, f3⟩ := cz4 BT.out
  obtain ⟨r0, r1, r2, r3, rf0, rf1, rf2, rf3⟩ := cz4 BR.out
  go_wp2_with (first | (go_at_call 81; refine HNAM.out.mono ?_; rintro e wN ⟨v, NA, nc, rfl, ⟨A5, c5, rfl, h5, hF5⟩, hbn, hln, hFN, hO⟩; have HWL := Aside0.mk (HB.out.size); have HRL := Aside0.mk (blk_lt BR.out); have HF5 := Aside0.mk (F_cut hF5); have H5 := Aside0.mk h5; replace BR := Aside0.mk ((hO.others _ (blk_lt BR.out) NRL.out).trans BR.out); replace HB := Aside0.mk (HB.out.trans (hO.bel.mono GL.out)); clear hF5 h5 hbn hln hFN hO z0 z1 z2 z3 f0 f1 f2 f3 r0 r1 r2 r3 rf0 rf1 rf2 rf3; obtain ⟨r0, r1, r2, r3, rf0, rf1, rf2, rf3⟩ := cz4 BR.out) | ((with_reducible refine gate_store (t := 31) (p := 10) rfl ?_); go_loud (refine store_event (t := 31) (p := 10) (v := ?vs9) (w1 := ((((wN.setCell ⟨gR, 0, none⟩ (.int .i64 r.1.f0)).setCell ⟨gR, 1, none⟩ (.int .i64 r.1.f1)).setCell ⟨gR, 2, none⟩ (.int .i64 r.1.f2)).setCell ⟨gR, 3, none⟩ (.slice A5 r.1.f3.length c5))) ?hg ?ho ?hn ?hr ?_; (case ho => rfl); (case hg => rfl); (case hn => rfl); (case hr => first | (go_simp; done) | (go_simp; rfl)); intro w9 hw; have N1 : Aside0 (w9.heap[gR]? = some (.cells #[.int .i64 r.1.f0, .int .i64 r.1.f1, .int .i64 r.1.f2, .slice A5 r.1.f3.length c5] 31 (0, 0))) := ⟨by rw [hw]; exact put4 BR.out⟩; have N2 : Aside0 (Below W.heap.size W w9) := ⟨by rw [hw]; exact below_set (below_set (below_set (below_set HB.out GR.out) GR.out) GR.out) GR.out⟩; have N3 := Aside0.mk (show Kd.F k31 w9 _ A5 _ _ from by rw [hw]; exact F_far4 HF5.out (fun k hk => by have := GR.out; have := HRL.out; have := hk.1; have := hk.2; show k ≠ gR; omega)); clear r0 r1 r2 r3 rf0 rf1 rf2 rf3; clear hw)))
  obtain ⟨s0, s1, s2, s3, _, _, _, _⟩ := cz4 N1.out
  refine bodyPost_ret (v := .tuple #[.agg #[.int .i64 r.1.f0, .int .i64 r.1.f1, .int .i64 r.1.f2, .slice A5 r.1.f3.length c5], .int .i64 0]) (by simp [results, Try.results43, go_sem, s0, s1, s2, s3]) rfl ?_
  exact ⟨_, rfl, ⟨A5, c5, rfl, H5.out, Kd.F_mono N3.out (fun k hk => hk.1.elim (fun h => .inl h.1) (fun h => .inr (Nat.le_trans HWL.out h)))⟩, N2.out⟩
end Go.Proofs.Ytplngfammfdemaa
end
section
namespace Go.Proofs.Ytplngfammfdemaa
open Go.RowKit Go.Proofs.YtplngfammfdemaaW.PrintWords Go.Proofs.YtplngfammfdemaaW.PrintLast Go.Proofs.YtplngfammfdemaaW.PrintMore Q
set_option linter.unusedVariables false
set_option linter.unusedSimpArgs false
/-- A row of two panes. -/
theorem two_panes (w : World) (g : Nat) (p q a b : Int) (h : w.heap[g]? = some (.cells #[.int .i64 0, .int .i64 p, .int .i64 a, .slice none 0 0, .int .i64 0, .int .i64 q, .int .i64 b, .slice none 0 0] 31 (0, 0))) :
    KidsAt w (fun _ => False) g #[.int .i64 0, .int .i64 p, .int .i64 a, .slice none 0 0, .int .i64 0, .int .i64 q, .int .i64 b, .slice none 0 0] [⟨0, p, a, []⟩, ⟨0, q, b, []⟩] := by
  refine ⟨h, fun j x hx => ?_, by simp, fun k hk => hk.elim⟩
  match j, hx with
  | 0, hx => simp only [List.getElem?_cons_zero, Option.some.injEq] at hx; subst hx; exact ⟨rfl, rfl, rfl, none, 0, rfl, Nat.le_refl _, fun W' _ => Kd.C_nil _ _⟩
  | 1, hx => simp only [List.getElem?_cons_succ, List.getElem?_cons_zero, Option.some.injEq] at hx; subst hx; exact ⟨rfl, rfl, rfl, none, 0, rfl, Nat.le_refl _, fun W' _ => Kd.C_nil _ _⟩
  | j + 2, hx => simp at hx
theorem half_eq (n : Int) (h3 : 3 ≤ n) : Int.tdiv (n - 1) 2 = (n - 1) / 2 := Int.tdiv_eq_ediv_of_nonneg (by omega)
set_option maxRecDepth 100000 in
set_option maxHeartbeats 4000000 in
theorem split_leaf_g (w : World) (t : S31) (h0 : t.f0 = 0) (A : Option Addr) (c : Nat) (ok : Nat → Prop) (pane kind fresh n : Int) (h3 : 3 ≤ n) (h8 : n ≤ 80) :
    Calls Try.prog 86 #[.agg #[.int .i64 t.f0, .int .i64 t.f1, .int .i64 t.f2, .slice A t.f3.length c], .int .i64 pane, .int .i64 kind, .int .i64 fresh, .int .i64 n] w fun e w' => TreeOut w w' ok e ⟨kind, 0, t.f2, [⟨0, pane, n - 1 - (n - 1) / 2, []⟩, ⟨0, fresh, (n - 1) / 2, []⟩]⟩ := by
  have hu31 := Try.underlying31
  have b0 : (t.f0 == 0) = true := beq_iff_eq.mpr h0
  have e1 : wrap64 (n - 1) = n - 1 := by unfold wrap64; omega
  have e2 : Int.tdiv (n - 1) 2 = (n - 1) / 2 := half_eq n h3
  have e3 : wrap64 ((n - 1) / 2) = (n - 1) / 2 := by unfold wrap64; omega
  have e4 : wrap64 (n - 1 - (n - 1) / 2) = n - 1 - (n - 1) / 2 := by unfold wrap64; omega
  clear h0
  go_enter Try.func86, Try.ntmps86
  go_wp2
  refine bodyPost_ret (v := .agg #[.int .i64 kind, .int .i64 0, .int .i64 t.f2, .slice (some ⟨w.heap.size + 1 + 1 + 1 + 1, 0, none⟩) 2 2]) (by simp [results, Try.results86, go_sem]) rfl ⟨_, rfl, ?_, ?_⟩
  · have hk := two_panes (((((w.alloc (.cells #[.int .i64 t.f0, .int .i64 t.f1, .int .i64 t.f2, .slice A t.f3.length c] 31)).alloc (.cells #[.int .i64 kind, .int .i64 0, .int .i64 t.f2, .slice (some ⟨w.heap.size + 1 + 1 + 1 + 1, 0, none⟩) 2 2] 31)).alloc (.cells #[.int .i64 0, .int .i64 fresh, .int .i64 ((n - 1) / 2), .slice none 0 0] 31)).alloc (.cells #[.int .i64 0, .int .i64 pane, .int .i64 (n - 1 - (n - 1) / 2), .slice none 0 0] 31)).alloc (.cells #[.int .i64 0, .int .i64 pane, .int .i64 (n - 1 - (n - 1) / 2), .slice none 0 0, .int .i64 0, .int .i64 fresh, .int .i64 ((n - 1) / 2), .slice none 0 0] 31)) (w.heap.size + 1 + 1 + 1 + 1) pane fresh (n - 1 - (n - 1) / 2) ((n - 1) / 2) (by
      have h := heap_alloc_new (((((w.alloc (.cells #[.int .i64 t.f0, .int .i64 t.f1, .int .i64 t.f2, .slice A t.f3.length c] 31)).alloc (.cells #[.int .i64 kind, .int .i64 0, .int .i64 t.f2, .slice (some ⟨w.heap.size + 1 + 1 + 1 + 1, 0, none⟩) 2 2] 31)).alloc (.cells #[.int .i64 0, .int .i64 fresh, .int .i64 ((n - 1) / 2), .slice none 0 0] 31)).alloc (.cells #[.int .i64 0, .int .i64 pane, .int .i64 (n - 1 - (n - 1) / 2), .slice none 0 0] 31))) (.cells #[.int .i64 0, .int .i64 pane, .int .i64 (n - 1 - (n - 1) / 2), .slice none 0 0, .int .i64 0, .int .i64 fresh, .int .i64 ((n - 1) / 2), .slice none 0 0] 31)
      simpa only [World.size_alloc] using h)
    exact (hk.tree (cap := 2) (by simp) kind 0 t.f2).mono (fun k hk => hk.elim (fun h => h.elim) (fun e => .inr (by omega)))
  · repeat (first | exact Below.refl _ _ | apply below_alloc)
end Go.Proofs.Ytplngfammfdemaa
end
