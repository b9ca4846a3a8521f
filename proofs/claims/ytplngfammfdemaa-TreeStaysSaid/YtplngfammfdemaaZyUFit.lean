-- A copy of the text YtplngfammfdemaaUFit with what this claim does not reach left out (prune.py, a program of this project).
import Derived.Test.YtplngfammfdemaaZyMS2
import Derived.Test.YtplngfammfdemaaZyUFitW
import Derived.Test.YtplngfammfdemaaZyGShort
import Derived.Deep.RegionHeld3
namespace Go.Proofs.Ytplngfammfdemaa
open Go.RowKit Go.Proofs.YtplngfammfdemaaW.PrintWords Go.Proofs.YtplngfammfdemaaW.PrintLast Go.Proofs.YtplngfammfdemaaW.PrintMore Q
attribute [local go_sem] max2_int max_two
set_option linter.unusedVariables false
set_option linter.unusedSimpArgs false
theorem along_f (kind w h : Int) : tree_along.f kind w h = some (alo kind w h) := by
  unfold tree_along.f alo; split <;> rfl
theorem sumF_in (xs : List S31) (h : ∀ x ∈ xs, 1 ≤ x.f2 ∧ x.f2 ≤ 80) : ∀ j, j ≤ xs.length → 0 ≤ sumF (xs.take j) ∧ sumF (xs.take j) ≤ 80 * j := by
  intro j
  induction j with
  | zero => intro _; simp [sumF_nil]
  | succ j ih =>
    intro hj
    have := ih (by omega)
    have := h xs[j] (List.getElem_mem _)
    rw [sumF_one xs j (by omega)]
    omega
theorem fitS_most (ls : S31 → Int) (m : Int) : ∀ l : List S31, (∀ x ∈ l, ls x ≤ x.f2 ∧ x.f2 ≤ 80) → ∀ y ∈ (fitS ls l m).1, y.f2 ≤ 80 + max 0 m := by
  intro l
  induction l with
  | nil => intro _ y hy; cases hy
  | cons x l ih =>
    intro hl y hy
    have h1 := fitM_low ls m l (fun z hz => (hl z (List.mem_cons_of_mem _ hz)).1)
    have h2 := hl x (List.mem_cons_self ..)
    unfold fitS at hy
    rcases List.mem_cons.1 hy with rfl | hy
    · show x.f2 + max (fitS ls l m).2 (ls x - x.f2) ≤ _
      omega
    · exact ih (fun z hz => hl z (List.mem_cons_of_mem _ hz)) y hy
theorem sized_f2 (kind a b c : Int) (l : List S31) (w h : Int) : tree_sized.f kind a b c l w h = some (kwd kind c w, khd kind c h) := by
  unfold tree_sized.f kwd khd; split <;> rfl
/-- A kid's least size, along its tree's way. -/
theorem least_in {d k : Nat} {t : S31} {w h : Int} (hm : Mk (d + 1) t w h) (w1 : 1 ≤ w) (w8 : w ≤ 80) (h1 : 1 ≤ h) (h8 : h ≤ 80) (h0 : t.f0 ≠ 0) : ∀ x ∈ t.f3, 1 ≤ leastR k x t.f0 ∧ leastR k x t.f0 ≤ x.f2 := by
  intro x hx
  obtain ⟨hkd, _, _, hk, _⟩ := hm.kids h0
  obtain ⟨_, b, c, e⟩ := hk x hx
  obtain ⟨p, q, r, s⟩ := kid_box (kind := t.f0) b c w1 w8 h1 h8
  refine ⟨least_pos d k x _ _ t.f0 e, ?_⟩
  have h4 := least_le d k x _ _ e p r
  rcases hkd with hkd | hkd
  · rw [hkd] at h4 ⊢; unfold kwd at h4; rw [if_pos rfl] at h4; exact h4.1
  · rw [hkd] at h4 ⊢; unfold khd at h4; rw [if_neg (by omega)] at h4; exact h4.2
theorem fit_leaf_t (k : Nat) (t : S31) (w h : Int) (h0 : t.f0 = 0) : fitR k t w h = t := by
  cases k with
  | zero => rfl
  | succ k => unfold fitR; rw [if_pos h0]
set_option maxHeartbeats 16000000 in
set_option maxRecDepth 100000 in
theorem fit_calls : ∀ (d : Nat) (t : S31) (w0 h0 : Int), Mk d t w0 h0 → 1 ≤ w0 → w0 ≤ 80 → 1 ≤ h0 → h0 ≤ 80 → d ≤ 20 → ∀ (k : Nat), d ≤ k → ∀ (W H : Int), -(1000000 + 5000 * (20 - (d : Int))) ≤ W → W ≤ 1000000 + 5000 * (20 - (d : Int)) → -(1000000 + 5000 * (20 - (d : Int))) ≤ H → H ≤ 1000000 + 5000 * (20 - (d : Int)) →
    ∀ (w : World) (ok : Nat → Prop) (A : Option Addr) (c : Nat), Kd.F k31 w ok A t.f3.length t.f3 → t.f3.length ≤ c →
    Calls Try.prog 78 #[.agg #[.int .i64 t.f0, .int .i64 t.f1, .int .i64 t.f2, .slice A t.f3.length c], .int .i64 W, .int .i64 H] w fun e w' => TreeNew w w' ok e (fitR k t W H) := by
  intro d
  induction d with
  | zero => intro t w0 h0 hm; exact hm.elim
  | succ d ih =>
    intro t w0 h0 hm w1 w8 h1 h8 hd k hk W H hW1 hW2 hH1 hH2 w ok A c hF hc
    obtain ⟨k, rfl⟩ : ∃ m, k = m + 1 := ⟨k - 1, by omega⟩
    have hu31 := Try.underlying31
    have IH := Aside0.mk ih
    have HM := Aside0.mk hm
    have HBD := Aside0.mk (And.intro (And.intro w1 (And.intro w8 (And.intro h1 h8))) (And.intro hd (And.intro hk (And.intro (And.intro hW1 hW2) (And.intro hH1 hH2)))))
    have HF := Aside0.mk (F_cut hF)
    have HCC := Aside0.mk hc
    have HB := Aside0.mk (Below.refl w.heap.size w)
    clear ih hm hF hc hk w1 w8 h1 h8 hd hW1 hW2 hH1 hH2
    by_cases k0 : t.f0 = 0
    · have b0 : (t.f0 == 0) = true := beq_iff_eq.mpr k0
      rw [fit_leaf_t _ t W H k0]
      have h3 : t.f3 = [] := by
        rcases HM.out with hm | hm
        · exact hm.2.1
        · omega
      have H3 := Aside0.mk h3
      clear k0 h3
      go_enter Try.func78, Try.ntmps78
      go_wp2_with (first | ((with_reducible refine gate_dst (N := 3) rfl ?_); (try (refine gate_guard (by rfl) ?_; dsimp only)); refine box_event ?hg (N := 3) ?hd (cs := #[.int .i64 t.f0, .int .i64 t.f1, .int .i64 t.f2, .slice A t.f3.length c]) (t := 31) ?hr ?_; (case hd => rfl); (case hg => rfl); (case hr => first | (go_simp; done) | (go_simp; rfl)); intro gT hg wT hbox hb; have BT := Aside0.mk hbox; have GT := Aside0.mk (by rw [hg]; exact below_size HB.out : w.heap.size ≤ gT); replace HB := Aside0.mk (below_step HB.out hb); replace HF := Aside0.mk (Kd.F_below HF.out hb); clear hb hbox hg; obtain ⟨z0, z1, z2, z3, f0, f1, f2, f3⟩ := cz4 BT.out) | ((with_reducible refine gate_dst (N := 6) rfl ?_); (try (refine gate_guard (by rfl) ?_; dsimp only)); refine box_event ?hg (N := 6) ?hd (cs := #[.int .i64 0, .int .i64 0, .int .i64 0, .slice none 0 0]) (t := 31) ?hr ?_; (case hd => rfl); (case hg => rfl); (case hr => first | (go_simp; done) | (go_simp; rfl)); intro gR hg wR hbox hb; have BR := Aside0.mk hbox; have GR := Aside0.mk (by rw [hg]; exact below_size HB.out : w.heap.size ≤ gR); have NTR := Aside0.mk (by rw [hg]; exact lt1 BT.out : gT ≠ gR); have NRT := Aside0.mk (by rw [hg]; exact gt1 BT.out : gR ≠ gT); replace BT := Aside0.mk (bb hb BT.out); replace HB := Aside0.mk (below_step HB.out hb); replace HF := Aside0.mk (Kd.F_below HF.out hb); have WLE := Aside0.mk (HB.out.size); clear hb hbox hg; clear z0 z1 z2 z3 f0 f1 f2 f3; obtain ⟨z0, z1, z2, z3, f0, f1, f2, f3⟩ := cz4 BT.out; obtain ⟨r0, r1, r2, r3, rf0, rf1, rf2, rf3⟩ := cz4 BR.out; have nTR := NTR.out; have nRT := NRT.out) | ((with_reducible refine gate_store (t := 31) (p := 6) rfl ?_); refine store_event (t := 31) (p := 6) (v := ?vo) (w1 := ((((wR.setCell ⟨gR, 0, none⟩ (.int .i64 t.f0)).setCell ⟨gR, 1, none⟩ (.int .i64 t.f1)).setCell ⟨gR, 2, none⟩ (.int .i64 t.f2)).setCell ⟨gR, 3, none⟩ (.slice A t.f3.length c))) ?hg ?ho ?hn ?hr ?_; (case ho => rfl); (case hg => rfl); (case hn => rfl); (case hr => first | (go_simp; done) | (go_simp; rfl)); intro w9 hw; have N1 : Aside0 (w9.heap[gR]? = some (.cells #[.int .i64 t.f0, .int .i64 t.f1, .int .i64 t.f2, .slice A t.f3.length c] 31 (0, 0))) := ⟨by rw [hw]; exact put4 BR.out⟩; have N2 : Aside0 (Below w.heap.size w w9) := ⟨by rw [hw]; exact below_set (below_set (below_set (below_set HB.out GR.out) GR.out) GR.out) GR.out⟩; have N3 : Aside0 (Kd.F k31 w9 (fun k => ok k ∧ k < w.heap.size) A t.f3.length t.f3) := ⟨by rw [hw]; exact Kd.F_far (p := ⟨gR, 3, none⟩) (Kd.F_far (p := ⟨gR, 2, none⟩) (Kd.F_far (p := ⟨gR, 1, none⟩) (Kd.F_far (p := ⟨gR, 0, none⟩) HF.out (fun k hk => by have := GR.out; have := hk.2; show k ≠ gR; omega) _) (fun k hk => by have := GR.out; have := hk.2; show k ≠ gR; omega) _) (fun k hk => by have := GR.out; have := hk.2; show k ≠ gR; omega) _) (fun k hk => by have := GR.out; have := hk.2; show k ≠ gR; omega) _⟩; clear hw; clear z0 z1 z2 z3 f0 f1 f2 f3 r0 r1 r2 r3 rf0 rf1 rf2 rf3))
      obtain ⟨s0, s1, s2, s3, _, _, _, _⟩ := cz4 N1.out
      refine bodyPost_ret (v := .agg #[.int .i64 t.f0, .int .i64 t.f1, .int .i64 t.f2, .slice A t.f3.length c]) (by simp [results, Try.results78, go_sem, s0, s1, s2, s3]) rfl ?_
      exact ⟨_, rfl, ⟨A, c, rfl, HCC.out, Kd.F_mono N3.out (fun k hk => .inl hk.1)⟩, fun hp => by rw [H3.out] at hp; simp at hp, N2.out⟩
    · have b0 : (t.f0 == 0) = false := beq_eq_false_iff_ne.mpr k0
      have KIDS := Aside0.mk (HM.out.kids k0)
      have hlen := mk_kids HM.out HBD.out.1.2.1 HBD.out.1.2.2.2
      have HP : Aside0 (0 < t.f3.length) := ⟨by have := KIDS.out.2.2.1; omega⟩
      have HN : Aside0 (t.f3.length ≤ 1000000) := ⟨by omega⟩
      have LEN := Aside0.mk hlen
      have K0 := Aside0.mk k0
      clear hlen k0
      go_enter Try.func78, Try.ntmps78
      go_upto_region 4 with (first | ((with_reducible refine gate_dst (N := 3) rfl ?_); (try (refine gate_guard (by rfl) ?_; dsimp only)); refine box_event ?hg (N := 3) ?hd (cs := #[.int .i64 t.f0, .int .i64 t.f1, .int .i64 t.f2, .slice A t.f3.length c]) (t := 31) ?hr ?_; (case hd => rfl); (case hg => rfl); (case hr => first | (go_simp; done) | (go_simp; rfl)); intro gT hg wT hbox hb; have BT := Aside0.mk hbox; have GT := Aside0.mk (by rw [hg]; exact below_size HB.out : w.heap.size ≤ gT); replace HB := Aside0.mk (below_step HB.out hb); replace HF := Aside0.mk (Kd.F_below HF.out hb); clear hb hbox hg; obtain ⟨z0, z1, z2, z3, f0, f1, f2, f3⟩ := cz4 BT.out) | ((with_reducible refine gate_dst (N := 6) rfl ?_); (try (refine gate_guard (by rfl) ?_; dsimp only)); refine box_event ?hg (N := 6) ?hd (cs := #[.int .i64 0, .int .i64 0, .int .i64 0, .slice none 0 0]) (t := 31) ?hr ?_; (case hd => rfl); (case hg => rfl); (case hr => first | (go_simp; done) | (go_simp; rfl)); intro gR hg wR hbox hb; have BR := Aside0.mk hbox; have GR := Aside0.mk (by rw [hg]; exact below_size HB.out : w.heap.size ≤ gR); have NTR := Aside0.mk (by rw [hg]; exact lt1 BT.out : gT ≠ gR); have NRT := Aside0.mk (by rw [hg]; exact gt1 BT.out : gR ≠ gT); replace BT := Aside0.mk (bb hb BT.out); replace HB := Aside0.mk (below_step HB.out hb); replace HF := Aside0.mk (Kd.F_below HF.out hb); have WLE := Aside0.mk (HB.out.size); clear hb hbox hg; clear z0 z1 z2 z3 f0 f1 f2 f3; obtain ⟨z0, z1, z2, z3, f0, f1, f2, f3⟩ := cz4 BT.out; obtain ⟨r0, r1, r2, r3, rf0, rf1, rf2, rf3⟩ := cz4 BR.out; have nTR := NTR.out; have nRT := NRT.out) | (go_at_call 109; refine (clone_tree _ (fun k => ok k ∧ k < w.heap.size) A c t.f3 HF.out HCC.out HP.out HN.out (fun k hk => Nat.lt_of_lt_of_le hk.2 WLE.out)).mono ?_; rintro e w2 ⟨g, cap, cells, rfl, HO0, hb⟩; have HO := Aside0.mk HO0; have GG := Aside0.mk HO0.low; have GTG := Aside0.mk (Nat.ne_of_lt (Nat.lt_of_lt_of_le (blk_lt BT.out) GG.out) : gT ≠ g); have GRL := Aside0.mk (Nat.lt_of_lt_of_le (blk_lt BR.out) GG.out : gR < g); have GRG := Aside0.mk (Nat.ne_of_lt (Nat.lt_of_lt_of_le (blk_lt BR.out) GG.out) : gR ≠ g); replace BT := Aside0.mk (bb hb BT.out); replace BR := Aside0.mk (bb hb BR.out); replace HB := Aside0.mk (below_step HB.out hb); clear hb HO0 z0 z1 z2 z3 f0 f1 f2 f3 r0 r1 r2 r3 rf0 rf1 rf2 rf3; obtain ⟨z0, z1, z2, z3, f0, f1, f2, f3⟩ := cz4 BT.out))
      have hBT := blk_put BT.out 3 (.slice (some ⟨g, 0, none⟩) t.f3.length cap) rfl
      have hBR := blk_far (p := ⟨gT, 3, none⟩) BR.out NRT.out (.slice (some ⟨g, 0, none⟩) t.f3.length cap)
      have hHO := HO.out.far (p := ⟨gT, 3, none⟩) GTG.out (fun k hk => by have := GT.out; have := hk.2; show k ≠ gT; omega) (.slice (some ⟨g, 0, none⟩) t.f3.length cap)
      have hHB := below_set (j := 3) (v := .slice (some ⟨g, 0, none⟩) t.f3.length cap) HB.out GT.out
      clear z0 z1 z2 z3 f0 f1 f2 f3 BT BR HO HB HF
      generalize hAD : (⟨g, 0, none⟩ : Addr) = ad at hBT hBR hHO hHB ⊢
      have AD : RowAd ad g := ⟨hAD.symm⟩
      generalize hw3 : w2.setCell ⟨gT, 3, none⟩ (.slice (some ad) t.f3.length cap) = w3 at hBT hBR hHO hHB ⊢
      have BT := Aside0.mk hBT
      have BR := Aside0.mk hBR
      have HO := Aside0.mk hHO
      have HB := Aside0.mk hHB
      clear hw3 hAD hBT hBR hHO hHB
      obtain ⟨z0, z1, z2, z3, f0, f1, f2, f3⟩ := cz4 BT.out
      go_region_held3 (fun w' => w'.cell? ⟨gT, 0, none⟩ = some (.int .i64 t.f0) ∧ w'.cell? ⟨gT, 3, none⟩ = some (.slice (some ad) t.f3.length cap)) (go_keep) (first | (go_at_call 85; with_reducible refine (tree_along.calls t.f0 W H (alo t.f0 W H) _ (along_f _ _ _)).mono ?_; rintro e w85 ⟨rfl, nd, rfl⟩))
      have hb : Below w3.heap.size w3 (w3.drewN (1 + nd)) := pw_below_drewN (Below.refl _ _) _
      generalize w3.drewN (1 + nd) = w4 at hb ⊢
      replace BT := Aside0.mk (bb hb BT.out)
      replace BR := Aside0.mk (bb hb BR.out)
      replace HO := Aside0.mk (HO.out.below hb)
      replace HB := Aside0.mk (below_step HB.out hb)
      clear z0 z1 z2 z3 f0 f1 f2 f3 hb
      obtain ⟨z0, z1, z2, z3, f0, f1, f2, f3⟩ := cz4 BT.out
      have BND : Aside0 (-3000000 ≤ alo t.f0 W H ∧ alo t.f0 W H ≤ 3000000) := ⟨by have := HBD.out.2.2.2; unfold alo; split <;> omega⟩
      have SZ : Aside0 (∀ x ∈ t.f3, 1 ≤ x.f2 ∧ x.f2 ≤ 80) := ⟨fun x hx => ⟨(KIDS.out.2.2.2.1 x hx).2.1, (KIDS.out.2.2.2.1 x hx).2.2.1⟩⟩
      have SUM : Aside0 (∀ j, j ≤ t.f3.length → 0 ≤ sumF (t.f3.take j) ∧ sumF (t.f3.take j) ≤ 80 * j) := ⟨sumF_in t.f3 SZ.out⟩
      have e1 : IntKind.i64.wrap (alo t.f0 W H - (t.f3.length : Int)) = alo t.f0 W H - (t.f3.length : Int) := by have := LEN.out; have := BND.out; rw [IntKind.wrap_i64]; omega
      have e2 : IntKind.i64.wrap (alo t.f0 W H - (t.f3.length : Int) + 1) = alo t.f0 W H - (t.f3.length : Int) + 1 := by have := LEN.out; have := BND.out; rw [IntKind.wrap_i64]; omega
      simp only [e1, e2]
      clear e1 e2
      go_wp2
      go_loopg [7, 38] t.f3.length (fun kq v7 v38 w' => ∃ i : Nat, v7 = .int .i64 (alo t.f0 W H - (t.f3.length : Int) + 1 - sumF (t.f3.take i)) ∧ v38 = .int .i64 (i : Int) ∧ Aside0 (i + kq = t.f3.length) ∧ Aside0 (w'.heap[gT]? = some (.cells #[.int .i64 t.f0, .int .i64 t.f1, .int .i64 t.f2, .slice (some ad) t.f3.length cap] 31 (0, 0))) ∧ Aside0 (w'.heap[gR]? = some (.cells #[.int .i64 0, .int .i64 0, .int .i64 0, .slice none 0 0] 31 (0, 0))) ∧ Aside0 (OwnAt w' (fun k => ok k ∧ k < w.heap.size) wR.heap.size g cap cells t.f3) ∧ Aside0 (Below w.heap.size w w'))
      case atStart =>
        refine ⟨0, ?_, rfl, ⟨by omega⟩, ⟨BT.out⟩, ⟨BR.out⟩, ⟨HO.out⟩, ⟨HB.out⟩⟩
        first | (congr 1; simp only [List.take_zero, sumF_nil]; omega) | (congr 1; simp [sumF_nil])
      case round =>
        clear z0 z1 z2 z3 f0 f1 f2 f3 BT BR HO HB
        obtain ⟨i, rfl, rfl, HI, BT, BR, HO, HB⟩ := hrel
        have hi := HI.out
        have hl := LEN.out
        have hbn := BND.out
        obtain ⟨z0, z1, z2, z3, f0, f1, f2, f3⟩ := cz4 BT.out
        cases gk with
        | succ k1 =>
          have hii : i < t.f3.length := by omega
          have c4 : decide ((i : Int) < (t.f3.length : Int)) = true := decide_eq_true (by omega)
          have p22 : (0 ≤ (i : Int)) = True := eq_true (by omega)
          have q22 : ((i : Int) < (t.f3.length : Int)) = True := eq_true (by omega)
          have hs := SUM.out i (by omega)
          have hs1 := SUM.out (i + 1) (by omega)
          rw [sumF_one t.f3 i hii] at hs1
          obtain ⟨xA, xc, hxv, x0, x1, x2, x3⟩ := HO.out.kids.got (j := i) (List.getElem?_eq_getElem hii) AD
          clear hxv
          go_wp2_with (first | ((with_reducible refine gate_dst (N := 9) rfl ?_); (try (refine gate_guard (by rfl) ?_; dsimp only)); refine box_event ?hg (N := 9) ?hd (cs := #[.int .i64 0, .int .i64 0, .int .i64 0, .slice none 0 0]) (t := 31) ?hr ?_; (case hd => rfl); (case hg => rfl); (case hr => first | (go_simp; done) | (go_simp; rfl)); intro gK hg wK hbox hb; have BK := Aside0.mk hbox; have GK := Aside0.mk (by rw [hg]; exact below_size HB.out : w.heap.size ≤ gK); have GE := Aside0.mk hg; have HWR := Aside0.mk hb; have NTK := Aside0.mk (by rw [hg]; exact lt1 BT.out : gT ≠ gK); have NKT := Aside0.mk (by rw [hg]; exact gt1 BT.out : gK ≠ gT); have NRK := Aside0.mk (by rw [hg]; exact lt1 BR.out : gR ≠ gK); have NGK := Aside0.mk (by rw [hg]; exact lt1 HO.out.kids.blk : g ≠ gK); replace BT := Aside0.mk (bb hb BT.out); replace BR := Aside0.mk (bb hb BR.out); have HOC := Aside0.mk (HO.out.cut.below hb); replace HB := Aside0.mk (below_step HB.out hb); replace x0 := (hb.cell (World.block_lt_of_cell? _ _ x0)).trans x0; replace x1 := (hb.cell (World.block_lt_of_cell? _ _ x1)).trans x1; replace x2 := (hb.cell (World.block_lt_of_cell? _ _ x2)).trans x2; replace x3 := (hb.cell (World.block_lt_of_cell? _ _ x3)).trans x3; clear hb hbox hg; clear z0 z1 z2 z3 f0 f1 f2 f3; obtain ⟨z0, z1, z2, z3, f0, f1, f2, f3⟩ := cz4 BT.out; have nTK := NTK.out; have nKT := NKT.out; have nGK := NGK.out; obtain ⟨y0, y1, y2, y3, e0, e1, e2, e3⟩ := cz4 BK.out))
          go_roundg k1
          case measure => omega
          case rel =>
            refine ⟨i + 1, ?_, ?_, ⟨by omega⟩, ⟨blk_far (blk_far (blk_far (blk_far BT.out NTK.out _) NTK.out _) NTK.out _) NTK.out _⟩, ⟨blk_far (blk_far (blk_far (blk_far BR.out NRK.out _) NRK.out _) NRK.out _) NRK.out _⟩, ⟨((((HOC.out.far (p := ⟨gK, 0, none⟩) (Ne.symm NGK.out) (fun k hk => by have := GE.out; have := hk.2; show k ≠ gK; omega) _).far (p := ⟨gK, 1, none⟩) (Ne.symm NGK.out) (fun k hk => by have := GE.out; have := hk.2; show k ≠ gK; omega) _).far (p := ⟨gK, 2, none⟩) (Ne.symm NGK.out) (fun k hk => by have := GE.out; have := hk.2; show k ≠ gK; omega) _).far (p := ⟨gK, 3, none⟩) (Ne.symm NGK.out) (fun k hk => by have := GE.out; have := hk.2; show k ≠ gK; omega) _).mono (fun k hk => hk.1) HO.out.kids.apart⟩, ⟨below_set (below_set (below_set (below_set HB.out GK.out) GK.out) GK.out) GK.out⟩⟩
            · rw [sumF_one t.f3 i hii]
              first | (congr 1; unfold wrap64; omega) | (congr 1; omega)
            · first | rfl | (congr 1; first | omega | (unfold wrap64; omega))
        | zero =>
          have hin : i = t.f3.length := by omega
          have c4 : decide ((i : Int) < (t.f3.length : Int)) = false := decide_eq_false (by omega)
          subst hin
          rw [List.take_length]
          clear hi HI
          have MX : Aside0 (alo t.f0 W H - (t.f3.length : Int) + 1 - sumF t.f3 = fitM (fun x => leastR k x t.f0) t.f3 (alo t.f0 W H - (t.f3.length : Int) + 1 - sumF t.f3) t.f3.length) := ⟨(fitM_end _ _ _).symm⟩
          have hsn := SUM.out t.f3.length (Nat.le_refl _)
          rw [List.take_length] at hsn
          have MB : Aside0 (-3000000 - 41 - 3280 ≤ alo t.f0 W H - (t.f3.length : Int) + 1 - sumF t.f3 ∧ alo t.f0 W H - (t.f3.length : Int) + 1 - sumF t.f3 ≤ 3000041) := ⟨by omega⟩
          go_wp2
          generalize hM0 : alo t.f0 W H - (t.f3.length : Int) + 1 - sumF t.f3 = M0 at MX MB ⊢
          have HM0 := Aside0.mk hM0
          clear hM0
          have LSX : Aside0 (∀ x ∈ t.f3, 1 ≤ leastR k x t.f0 ∧ leastR k x t.f0 ≤ x.f2) := ⟨fun x hx => least_in HM.out HBD.out.1.1 HBD.out.1.2.1 HBD.out.1.2.2.1 HBD.out.1.2.2.2 K0.out x hx⟩
          go_loopg [7, 10] t.f3.length (fun kq v7 v10 w' => ∃ cells' : Array Value, v7 = .int .i64 (fitM (fun x => leastR k x t.f0) t.f3 M0 kq) ∧ v10 = .int .i64 ((kq : Int) - 1) ∧ Aside0 (kq ≤ t.f3.length) ∧ Aside0 (w'.heap[gT]? = some (.cells #[.int .i64 t.f0, .int .i64 t.f1, .int .i64 t.f2, .slice (some ad) t.f3.length cap] 31 (0, 0))) ∧ Aside0 (w'.heap[gR]? = some (.cells #[.int .i64 0, .int .i64 0, .int .i64 0, .slice none 0 0] 31 (0, 0))) ∧ Aside0 (OwnAt w' (fun k => ok k ∧ k < w.heap.size) wR.heap.size g cap cells' (fitF (fun x => leastR k x t.f0) t.f3 M0 kq)) ∧ Aside0 (Below w.heap.size w w'))
          case atStart =>
            refine ⟨cells, ?_, ?_, ⟨Nat.le_refl _⟩, ⟨BT.out⟩, ⟨BR.out⟩, ⟨?_⟩, ⟨HB.out⟩⟩
            · rw [fitM_end]
            · rfl
            · rw [fitF_end]; exact HO.out
          case round =>
            clear z0 z1 z2 z3 f0 f1 f2 f3 BT BR HO HB
            obtain ⟨cells2, rfl, rfl, HI, BT, BR, HO, HB⟩ := hrel
            have hi := HI.out
            have hl := LEN.out
            obtain ⟨z0, z1, z2, z3, f0, f1, f2, f3⟩ := cz4 BT.out
            cases gk with
            | succ k1 =>
              have hii : k1 < t.f3.length := by omega
              rw [show (((k1 + 1 : Nat) : Int) - 1) = (k1 : Int) by omega]
              have p22 : (0 ≤ (k1 : Int)) = True := eq_true (by omega)
              have q22 : ((k1 : Int) < (t.f3.length : Int)) = True := eq_true (by omega)
              obtain ⟨xA, xc, hxv, x0, x1, x2, x3⟩ := HO.out.kids.got (j := k1) (fitF_at _ _ _ k1 hii) AD
              obtain ⟨xf0, xf1, xf2, xf3⟩ := HO.out.kids.free AD k1
              obtain ⟨xA', xc', hxe, hxl, hxF⟩ := hxv
              simp only [Value.agg.injEq, Array.mk.injEq, List.cons.injEq, Value.slice.injEq, and_true, true_and] at hxe
              obtain ⟨rfl, rfl⟩ := hxe
              have HX := Aside0.mk (Kd.F_now hxF)
              have MK : Aside0 (Mk d t.f3[k1] (kwd t.f0 t.f3[k1].f2 w0) (khd t.f0 t.f3[k1].f2 h0) ∧ 1 ≤ kwd t.f0 t.f3[k1].f2 w0 ∧ kwd t.f0 t.f3[k1].f2 w0 ≤ 80 ∧ 1 ≤ khd t.f0 t.f3[k1].f2 h0 ∧ khd t.f0 t.f3[k1].f2 h0 ≤ 80) := ⟨⟨(KIDS.out.2.2.2.1 _ (List.getElem_mem _)).2.2.2, kid_box (kind := t.f0) (KIDS.out.2.2.2.1 _ (List.getElem_mem _)).2.1 (KIDS.out.2.2.2.1 _ (List.getElem_mem _)).2.2.1 HBD.out.1.1 HBD.out.1.2.1 HBD.out.1.2.2.1 HBD.out.1.2.2.2⟩⟩
              have HL3 := Aside0.mk hxl
              clear hxl hxF
              go_upto_region 14 with (fail)
              go_region_held3 (fun w' => Below wr.heap.size wr w' ∧ w'.cell? ⟨gT, 0, none⟩ = some (.int .i64 t.f0) ∧ w'.cell? (ad.add (k1 * 4)) = some (.int .i64 t.f3[k1].f0) ∧ w'.cell? ⟨(ad.add (k1 * 4)).block, (ad.add (k1 * 4)).off + 1, none⟩ = some (.int .i64 t.f3[k1].f1) ∧ w'.cell? ⟨(ad.add (k1 * 4)).block, (ad.add (k1 * 4)).off + 2, none⟩ = some (.int .i64 t.f3[k1].f2) ∧ w'.cell? ⟨(ad.add (k1 * 4)).block, (ad.add (k1 * 4)).off + 3, none⟩ = some (.slice xA t.f3[k1].f3.length xc)) (first | exact ⟨below_drew (Below.refl _ _), z0, x0, x1, x2, x3⟩ | exact ⟨below_step (below_drew (Below.refl _ _)) hb, (hb.cell (World.block_lt_of_cell? wr _ z0)).trans z0, (hb.cell (World.block_lt_of_cell? wr _ x0)).trans x0, (hb.cell (World.block_lt_of_cell? wr _ x1)).trans x1, (hb.cell (World.block_lt_of_cell? wr _ x2)).trans x2, (hb.cell (World.block_lt_of_cell? wr _ x3)).trans x3⟩) (first | (go_at_call 77; refine (least_calls d t.f3[k1] _ _ MK.out.1 MK.out.2.1 MK.out.2.2.1 MK.out.2.2.2.1 MK.out.2.2.2.2 k (Nat.le_of_succ_le_succ HBD.out.2.2.1) t.f0 KIDS.out.1 _ xA xc (Kd.C_below HX.out (below_drew (Below.refl _ _))) HL3.out).mono ?_; rintro e w77 ⟨rfl, hb⟩))
              have hb' : Below wr.heap.size wr w77 := below_step (below_drew (Below.refl _ _)) hb
              replace x2 := (hb'.cell (World.block_lt_of_cell? wr _ x2)).trans x2
              clear xf0 xf1 xf2 xf3 x0 x1 x3 z0 z1 z2 z3 f0 f1 f2 f3
              replace BT := Aside0.mk (bb hb' BT.out)
              replace BR := Aside0.mk (bb hb' BR.out)
              replace HO := Aside0.mk (HO.out.below hb')
              replace HB := Aside0.mk (below_step HB.out hb')
              clear hb hb'
              obtain ⟨xf0, xf1, xf2, xf3⟩ := HO.out.kids.free AD k1
              have hls := LSX.out _ (List.getElem_mem hii)
              have hsz := SZ.out _ (List.getElem_mem hii)
              have hmb := MB.out
              have hfm := fitM_in (fun x => leastR k x t.f0) t.f3 M0 (k1 + 1) (fun x hx => (LSX.out x hx).2)
              have FS := Aside0.mk (fitF_step (fun x => leastR k x t.f0) t.f3 M0 k1 hii)
              have MS := Aside0.mk (fitM_step (fun x => leastR k x t.f0) t.f3 M0 k1 hii)
              have e0 : IntKind.i64.wrap (leastR k t.f3[k1] t.f0 - t.f3[k1].f2) = leastR k t.f3[k1] t.f0 - t.f3[k1].f2 := by rw [IntKind.wrap_i64]; omega
              simp only [e0]
              have eB : ∀ [inst : Decidable (fitM (fun x => leastR k x t.f0) t.f3 M0 (k1 + 1) < leastR k t.f3[k1] t.f0 - t.f3[k1].f2)], (@ite Int (fitM (fun x => leastR k x t.f0) t.f3 M0 (k1 + 1) < leastR k t.f3[k1] t.f0 - t.f3[k1].f2) inst (leastR k t.f3[k1] t.f0 - t.f3[k1].f2) (fitM (fun x => leastR k x t.f0) t.f3 M0 (k1 + 1))) = max (fitM (fun x => leastR k x t.f0) t.f3 M0 (k1 + 1)) (leastR k t.f3[k1] t.f0 - t.f3[k1].f2) := by intro inst; split <;> omega
              simp only [eB]
              have hBb : -3100000 ≤ max (fitM (fun x => leastR k x t.f0) t.f3 M0 (k1 + 1)) (leastR k t.f3[k1] t.f0 - t.f3[k1].f2) ∧ max (fitM (fun x => leastR k x t.f0) t.f3 M0 (k1 + 1)) (leastR k t.f3[k1] t.f0 - t.f3[k1].f2) ≤ 3100000 := by omega
              generalize max (fitM (fun x => leastR k x t.f0) t.f3 M0 (k1 + 1)) (leastR k t.f3[k1] t.f0 - t.f3[k1].f2) = BB at hBb FS MS ⊢
              clear e0 eB hls
              have HFM := Aside0.mk hfm
              go_wp2
              have AT := AD.at k1
              go_roundg k1
              case measure => omega
              case rel =>
                refine ⟨cells2.setIfInBounds (4 * k1 + 2) (.int .i64 (t.f3[k1].f2 + BB)), ?_, ?_, ⟨by omega⟩, ⟨blk_far (p := ⟨(ad.add (k1 * 4)).block, (ad.add (k1 * 4)).off + 2, none⟩) BT.out (by rw [AT]; exact GTG.out) _⟩, ⟨blk_far (p := ⟨(ad.add (k1 * 4)).block, (ad.add (k1 * 4)).off + 2, none⟩) BR.out (by rw [AT]; exact GRG.out) _⟩, ⟨?_⟩, ⟨?_⟩⟩
                · first | (rw [MS.out]; done) | (rw [MS.out]; first | rfl | (congr 1; first | omega | (simp only [IntKind.wrap_i64]; omega) | (unfold wrap64; omega)))
                · first | rfl | (congr 1; first | omega | (simp only [IntKind.wrap_i64]; omega) | (unfold wrap64; omega))
                · have h := HO.out.setSize (fitF_at (fun x => leastR k x t.f0) t.f3 M0 k1 hii) AD (t.f3[k1].f2 + BB)
                  rw [← FS.out]
                  have ew : wrap64 (t.f3[k1].f2 + BB) = t.f3[k1].f2 + BB := by unfold wrap64; omega
                  first | exact h | (rw [ew]; exact h) | (simp only [IntKind.wrap_i64]; exact h)
                · exact HB.out.setCell (p := ⟨(ad.add (k1 * 4)).block, (ad.add (k1 * 4)).off + 2, none⟩) (by rw [AT]; show w.heap.size ≤ g; have := GG.out; have := WLE.out; omega) _
            | zero =>
              have hlen2 := fitF_len (fun x => leastR k x t.f0) t.f3 M0 0 (Nat.zero_le _)
              have hM1 : M0 ≤ alo t.f0 W H := by have := HM0.out; have := HP.out; omega
              have YS : Aside0 (∀ y ∈ fitF (fun x => leastR k x t.f0) t.f3 M0 0, 1 ≤ y.f2 ∧ y.f2 ≤ 80 + max 0 M0 ∧ ∃ x ∈ t.f3, ∃ s, y = withSize x s) := ⟨fun y hy => by
                obtain ⟨x, hx, s, e, hs⟩ := resized_mem (fitS_resized (fun x => leastR k x t.f0) t.f3 M0) y hy
                have q1 : 1 ≤ y.f2 := by rw [e]; exact Int.le_trans (LSX.out x hx).1 hs
                have q2 := fitS_most (fun x => leastR k x t.f0) M0 t.f3 (fun x hx => ⟨(LSX.out x hx).2, (SZ.out x hx).2⟩) y hy
                exact ⟨q1, q2, x, hx, s, e⟩⟩
              have M1 := Aside0.mk hM1
              have FR : Aside0 (fitR (k + 1) t W H = ⟨t.f0, t.f1, t.f2, (fitF (fun x => leastR k x t.f0) t.f3 M0 0).map fun x => fitR k x (kwd t.f0 x.f2 W) (khd t.f0 x.f2 H)⟩) := ⟨by rw [fitR, if_neg K0.out, HM0.out]; rfl⟩
              generalize hys : fitF (fun x => leastR k x t.f0) t.f3 M0 0 = ys at HO hlen2 YS FR
              clear hys hM1
              have YL := Aside0.mk hlen2
              have APG : Aside0 (∀ k, (ok k ∧ k < w.heap.size ∨ g < k) → k ≠ g) := ⟨fun k hk => by have := GG.out; have := WLE.out; omega⟩
              replace HO := Aside0.mk (HO.out.mono (ok' := fun k => ok k ∧ k < w.heap.size ∨ g < k) (fun k hk => .inl hk) APG.out)
              clear hi hl
              go_wp2
              go_loopg [86] t.f3.length (fun kq v86 w' => ∃ (i : Nat) (cells' : Array Value), v86 = .int .i64 (i : Int) ∧ Aside0 (i + kq = t.f3.length) ∧ Aside0 (w'.heap[gT]? = some (.cells #[.int .i64 t.f0, .int .i64 t.f1, .int .i64 t.f2, .slice (some ad) t.f3.length cap] 31 (0, 0))) ∧ Aside0 (w'.heap[gR]? = some (.cells #[.int .i64 0, .int .i64 0, .int .i64 0, .slice none 0 0] 31 (0, 0))) ∧ Aside0 (OwnAt w' (fun k => ok k ∧ k < w.heap.size ∨ g < k) wR.heap.size g cap cells' (mapG (fun x => fitR k x (kwd t.f0 x.f2 W) (khd t.f0 x.f2 H)) ys i)) ∧ Aside0 (Below w.heap.size w w'))
              case atStart => exact ⟨0, cells2, rfl, ⟨by omega⟩, ⟨BT.out⟩, ⟨BR.out⟩, ⟨HO.out⟩, ⟨HB.out⟩⟩
              case round =>
                clear z0 z1 z2 z3 f0 f1 f2 f3 BT BR HO HB
                obtain ⟨i, cells3, rfl, HI, BT, BR, HO, HB⟩ := hrel
                have hi := HI.out
                have hyl := YL.out
                obtain ⟨z0, z1, z2, z3, f0, f1, f2, f3⟩ := cz4 BT.out
                cases gk with
                | succ k1 =>
                  have hii : i < ys.length := by omega
                  have c4 : decide ((i : Int) < (t.f3.length : Int)) = true := decide_eq_true (by omega)
                  have p22 : (0 ≤ (i : Int)) = True := eq_true (by omega)
                  have q22 : ((i : Int) < (t.f3.length : Int)) = True := eq_true (by omega)
                  obtain ⟨xA, xc, hxv, x0, x1, x2, x3⟩ := HO.out.kids.got (j := i) (mapG_at _ ys i hii) AD
                  obtain ⟨xA', xc', hxe, hxl, hxF⟩ := hxv
                  simp only [Value.agg.injEq, Array.mk.injEq, List.cons.injEq, Value.slice.injEq, and_true, true_and] at hxe
                  obtain ⟨rfl, rfl⟩ := hxe
                  have HXF := Aside0.mk (F_cut hxF)
                  have HL3 := Aside0.mk hxl
                  have YI := Aside0.mk (YS.out ys[i] (List.getElem_mem _))
                  have SF := Aside0.mk (sized_f2 t.f0 ys[i].f0 ys[i].f1 ys[i].f2 ys[i].f3 W H)
                  obtain ⟨hy1, hy2, x', hx', s', hys'⟩ := YI.out
                  have YM : Aside0 (Mk d ys[i] (kwd t.f0 x'.f2 w0) (khd t.f0 x'.f2 h0) ∧ 1 ≤ kwd t.f0 x'.f2 w0 ∧ kwd t.f0 x'.f2 w0 ≤ 80 ∧ 1 ≤ khd t.f0 x'.f2 h0 ∧ khd t.f0 x'.f2 h0 ≤ 80) := ⟨⟨by rw [hys']; exact mk_size s' (KIDS.out.2.2.2.1 _ hx').2.2.2, kid_box (kind := t.f0) (KIDS.out.2.2.2.1 _ hx').2.1 (KIDS.out.2.2.2.1 _ hx').2.2.1 HBD.out.1.1 HBD.out.1.2.1 HBD.out.1.2.2.1 HBD.out.1.2.2.2⟩⟩
                  have YB : Aside0 ((-(1000000 + 5000 * (20 - (d : Int))) ≤ kwd t.f0 ys[i].f2 W ∧ kwd t.f0 ys[i].f2 W ≤ 1000000 + 5000 * (20 - (d : Int))) ∧ (-(1000000 + 5000 * (20 - (d : Int))) ≤ khd t.f0 ys[i].f2 H ∧ khd t.f0 ys[i].f2 H ≤ 1000000 + 5000 * (20 - (d : Int)))) := ⟨by
                    have q1 := HBD.out.2.2.2
                    have q2 := HBD.out.2.1
                    have q3 := M1.out
                    have q4 : alo t.f0 W H ≤ 1000000 + 5000 * (20 - ((d + 1 : Nat) : Int)) := by unfold alo; split <;> omega
                    unfold kwd khd
                    split <;> omega⟩
                  clear hxl hxF hi hyl hy1 hy2 hx' hys'
                  go_upto_region 21 with (first | ((with_reducible refine gate_dst (N := 14) rfl ?_); (try (refine gate_guard (by rfl) ?_; dsimp only)); refine box_event ?hg (N := 14) ?hd (cs := #[.int .i64 0, .int .i64 0, .int .i64 0, .slice none 0 0]) (t := 31) ?hr ?_; (case hd => rfl); (case hg => rfl); (case hr => first | (go_simp; done) | (go_simp; rfl)); intro gK hg wK hbox hb; have BK := Aside0.mk hbox; have GK := Aside0.mk (by rw [hg]; exact below_size HB.out : w.heap.size ≤ gK); have GE := Aside0.mk hg; have HWR := Aside0.mk hb; have NTK := Aside0.mk (by rw [hg]; exact lt1 BT.out : gT ≠ gK); have NKT := Aside0.mk (by rw [hg]; exact gt1 BT.out : gK ≠ gT); have NRK := Aside0.mk (by rw [hg]; exact lt1 BR.out : gR ≠ gK); have NGK := Aside0.mk (by rw [hg]; exact lt1 HO.out.kids.blk : g ≠ gK); replace BT := Aside0.mk (bb hb BT.out); replace BR := Aside0.mk (bb hb BR.out); have HOC := Aside0.mk (HO.out.cut.below hb); replace HXF := Aside0.mk (Kd.F_below HXF.out hb); have WRS := Aside0.mk (hb.size); replace HB := Aside0.mk (below_step HB.out hb); replace x0 := (hb.cell (World.block_lt_of_cell? _ _ x0)).trans x0; replace x1 := (hb.cell (World.block_lt_of_cell? _ _ x1)).trans x1; replace x2 := (hb.cell (World.block_lt_of_cell? _ _ x2)).trans x2; replace x3 := (hb.cell (World.block_lt_of_cell? _ _ x3)).trans x3; clear hb hbox hg; clear z0 z1 z2 z3 f0 f1 f2 f3; obtain ⟨z0, z1, z2, z3, f0, f1, f2, f3⟩ := cz4 BT.out; have nTK := NTK.out; have nKT := NKT.out; have nGK := NGK.out; obtain ⟨y0, y1, y2, y3, e0, e1, e2, e3⟩ := cz4 BK.out) | ((with_reducible refine gate_callee (f := 96) rfl ?_); refine ga (some 97) rfl rfl Try.func96 (by kernel_rfl) rfl #[.int .i64 t.f0, .agg #[.int .i64 ys[i].f0, .int .i64 ys[i].f1, .int .i64 ys[i].f2, .slice xA ys[i].f3.length xc], .int .i64 W, .int .i64 H] rfl ?_; (with_reducible refine (tree_sized.calls t.f0 ys[i].f0 ys[i].f1 ys[i].f2 _ _ ys[i].f3 W H (kwd t.f0 ys[i].f2 W) (khd t.f0 ys[i].f2 H) _ ?side1 ?side2 SF.out).mono ?_); (case side1 => exact Kd.F_now (F_far4 HXF.out (fun k hk => by have := GE.out; have := hk.2; show k ≠ gK; omega))); (case side2 => exact HL3.out); rintro e w96 ⟨rfl, hb⟩; refine ⟨_, rfl, ?_⟩; replace BT := Aside0.mk (bb hb (far4 NTK.out BT.out)); replace BR := Aside0.mk (bb hb (far4 NRK.out BR.out)); replace HOC := Aside0.mk ((OwnAt.far4 HOC.out (Ne.symm NGK.out) (fun k hk => by have := GE.out; have := hk.2; show k ≠ gK; omega)).below hb); replace HXF := Aside0.mk (Kd.F_below (F_far4 HXF.out (fun k hk => by have := GE.out; have := hk.2; show k ≠ gK; omega)) hb); replace BK := Aside0.mk (bb hb (put4 BK.out)); replace HB := Aside0.mk (below_step (below_set (below_set (below_set (below_set HB.out GK.out) GK.out) GK.out) GK.out) hb); clear hb z0 z1 z2 z3 f0 f1 f2 f3 y0 y1 y2 y3 e0 e1 e2 e3 x0 x1 x2 x3; obtain ⟨z0, z1, z2, z3, f0, f1, f2, f3⟩ := cz4 BT.out; obtain ⟨y0, y1, y2, y3, e0, e1, e2, e3⟩ := cz4 BK.out))
                  have AT := AD.at i
                  have nTA : gT ≠ g := GTG.out
                  have nRA : gR ≠ g := GRG.out
                  have nKA : gK ≠ g := Ne.symm NGK.out
                  have xf0 := HOC.out.kids.frozen (4 * i)
                  have xf1 := HOC.out.kids.frozen (4 * i + 1)
                  have xf2 := HOC.out.kids.frozen (4 * i + 2)
                  have xf3 := HOC.out.kids.frozen (4 * i + 3)
                  obtain ⟨x0, x1, x2, _, _, x3, _, _⟩ := HOC.out.kids.cell (j := i) (mapG_at _ ys i hii)
                  go_region_held3 (fun w' => w'.cell? ⟨gT, 3, none⟩ = some (.slice (some ad) t.f3.length cap) ∧ w'.cell? ⟨gK, 0, none⟩ = some (.int .i64 ys[i].f0) ∧ w'.cell? ⟨gK, 1, none⟩ = some (.int .i64 ys[i].f1) ∧ w'.cell? ⟨gK, 2, none⟩ = some (.int .i64 ys[i].f2) ∧ w'.cell? ⟨gK, 3, none⟩ = some (.slice xA ys[i].f3.length xc)) (first | exact ⟨z3, y0, y1, y2, y3⟩ | exact ⟨z3', y0', y1', y2', y3'⟩ | exact ⟨cell_farP (p := ⟨g, 4 * i, none⟩) nTA z3', cell_farP (p := ⟨g, 4 * i, none⟩) nKA y0', cell_farP (p := ⟨g, 4 * i, none⟩) nKA y1', cell_farP (p := ⟨g, 4 * i, none⟩) nKA y2', cell_farP (p := ⟨g, 4 * i, none⟩) nKA y3'⟩) (first | (go_at_call 78; refine (IH.out ys[i] _ _ YM.out.1 YM.out.2.1 YM.out.2.2.1 YM.out.2.2.2.1 YM.out.2.2.2.2 (Nat.le_of_succ_le HBD.out.2.1) k (Nat.le_of_succ_le_succ HBD.out.2.2.1) (kwd t.f0 ys[i].f2 W) (khd t.f0 ys[i].f2 H) YB.out.1.1 YB.out.1.2 YB.out.2.1 YB.out.2.2 _ _ xA xc (Kd.F_below HXF.out (below_drew (Below.refl _ _))) HL3.out).mono ?_; rintro e w78 ⟨v, rfl, ⟨A5, c5, rfl, h5, hF5⟩, _, hb⟩; have z3' := (hb.cell (World.block_lt_of_cell? w96 _ z3)).trans z3; have y0' := (hb.cell (World.block_lt_of_cell? w96 _ y0)).trans y0; have y1' := (hb.cell (World.block_lt_of_cell? w96 _ y1)).trans y1; have y2' := (hb.cell (World.block_lt_of_cell? w96 _ y2)).trans y2; have y3' := (hb.cell (World.block_lt_of_cell? w96 _ y3)).trans y3; have x0' := (hb.cell (World.block_lt_of_cell? w96 _ x0)).trans x0; have x1' := (hb.cell (World.block_lt_of_cell? w96 _ x1)).trans x1; have x2' := (hb.cell (World.block_lt_of_cell? w96 _ x2)).trans x2; have x3' := (hb.cell (World.block_lt_of_cell? w96 _ x3)).trans x3; have HOD := Aside0.mk (HOC.out.below (below_step (below_drew (Below.refl _ _)) hb)); have xg0 := HOD.out.kids.frozen (4 * i); have xg1 := HOD.out.kids.frozen (4 * i + 1); have xg2 := HOD.out.kids.frozen (4 * i + 2); have xg3 := HOD.out.kids.frozen (4 * i + 3)))
                  have hb' : Below w96.heap.size w96 w78 := below_step (below_drew (Below.refl _ _)) hb
                  have hgl : g < w96.heap.size := blk_lt HOC.out.kids.blk
                  have hF6 : Kd.F k31 w78 (fun k => ok k ∧ k < w.heap.size ∨ g < k) A5 (fitR k ys[i] (kwd t.f0 ys[i].f2 W) (khd t.f0 ys[i].f2 H)).f3.length (fitR k ys[i] (kwd t.f0 ys[i].f2 W) (khd t.f0 ys[i].f2 H)).f3 := Kd.F_mono hF5 (fun k hk => hk.elim (fun hk => hk.1) (fun hk => .inr (Nat.lt_of_lt_of_le hgl hk)))
                  obtain ⟨cells4, hO4⟩ := ((HOC.out.below hb').mono (fun k hk => hk.1) APG.out).putL (j := i) (by rw [mapG_len]; exact hii) (fitR k ys[i] (kwd t.f0 ys[i].f2 W) (khd t.f0 ys[i].f2 H)) h5 hF6
                  rw [mapG_step _ ys i hii] at hO4
                  have HO4 := Aside0.mk hO4
                  have HB4 := Aside0.mk (below_step HB.out hb')
                  have BT4 := Aside0.mk (bb hb' BT.out)
                  have BR4 := Aside0.mk (bb hb' BR.out)
                  clear hO4 hF6 hF5 hb hb'
                  go_wp2
                  go_roundg k1
                  case measure => omega
                  case rel =>
                    refine ⟨i + 1, cells4, ?_, ⟨by have := HI.out; omega⟩, ⟨blk_farP (p := ⟨g, 4 * i, none⟩) BT4.out nTA⟩, ⟨blk_farP (p := ⟨g, 4 * i, none⟩) BR4.out nRA⟩, ⟨HO4.out⟩, ⟨below_setP (p := ⟨g, 4 * i, none⟩) HB4.out (by show w.heap.size ≤ g; have := GG.out; have := WLE.out; omega)⟩⟩
                    first | rfl | (congr 1; first | omega | (have := LEN.out; unfold wrap64; omega))
                | zero =>
                  have hin : i = ys.length := by omega
                  have c4 : decide ((i : Int) < (t.f3.length : Int)) = false := decide_eq_false (by omega)
                  subst hin
                  have hO := HO.out
                  rw [mapG_end] at hO
                  have HOE := Aside0.mk hO
                  clear hO hi hyl HI
                  obtain ⟨r0, r1, r2, r3, rf0, rf1, rf2, rf3⟩ := cz4 BR.out
                  go_wp2_with (first | ((with_reducible refine gate_store (t := 31) (p := 6) rfl ?_); go_loud (refine store_event (t := 31) (p := 6) (v := ?vo7) (w1 := ((((wr.setCell ⟨gR, 0, none⟩ (.int .i64 t.f0)).setCell ⟨gR, 1, none⟩ (.int .i64 t.f1)).setCell ⟨gR, 2, none⟩ (.int .i64 t.f2)).setCell ⟨gR, 3, none⟩ (.slice (some ad) t.f3.length cap))) ?hg ?ho ?hn ?hr ?_; (case ho => rfl); (case hg => rfl); (case hn => rfl); (case hr => first | (go_simp; done) | (go_simp; rfl)); intro w9 hw; have N1 : Aside0 (w9.heap[gR]? = some (.cells #[.int .i64 t.f0, .int .i64 t.f1, .int .i64 t.f2, .slice (some ad) t.f3.length cap] 31 (0, 0))) := ⟨by rw [hw]; exact put4 BR.out⟩; have N2 : Aside0 (Below w.heap.size w w9) := ⟨by rw [hw]; exact below_set (below_set (below_set (below_set HB.out GR.out) GR.out) GR.out) GR.out⟩; have N3 := Aside0.mk (show OwnAt w9 (fun k => ok k ∧ k < w.heap.size ∨ g < k) wR.heap.size g cap cells3 (ys.map fun x => fitR k x (kwd t.f0 x.f2 W) (khd t.f0 x.f2 H)) from by rw [hw]; exact OwnAt.far4 HOE.out GRG.out (fun k hk => by have := GR.out; have := GRL.out; omega)); clear hw; clear z0 z1 z2 z3 f0 f1 f2 f3)))
                  obtain ⟨s0, s1, s2, s3, _, _, _, _⟩ := cz4 N1.out
                  refine bodyPost_ret (v := .agg #[.int .i64 t.f0, .int .i64 t.f1, .int .i64 t.f2, .slice (some ad) t.f3.length cap]) (by simp [results, Try.results78, go_sem, s0, s1, s2, s3]) rfl ?_
                  rw [FR.out]
                  have hml : (ys.map fun x => fitR k x (kwd t.f0 x.f2 W) (khd t.f0 x.f2 H)).length = t.f3.length := by rw [List.length_map]; exact YL.out
                  have hT := N3.out.kids.tree (cap := cap) (by rw [hml]; have := N3.out.fit; rw [hml] at this; exact this) t.f0 t.f1 t.f2
                  rw [hml, ← AD.eq] at hT
                  refine ⟨_, rfl, hT.mono (fun k hk => ?_), fun _ => ⟨g, cap, cells3, ?_, ?_, N3.out.kids.blk⟩, N2.out⟩
                  · have := GG.out
                    have := WLE.out
                    rcases hk with (hk | hk) | hk
                    · exact .inl hk.1
                    · exact .inr (by omega)
                    · exact .inr (by omega)
                  · rw [hml, ← AD.eq]
                  · have := GG.out; have := WLE.out; omega
end Go.Proofs.Ytplngfammfdemaa
