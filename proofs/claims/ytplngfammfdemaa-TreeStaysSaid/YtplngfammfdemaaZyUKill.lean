-- A copy of the text YtplngfammfdemaaUKill with what this claim does not reach left out (prune.py, a program of this project).
import Derived.Test.YtplngfammfdemaaZyGIdx
import Derived.Test.YtplngfammfdemaaZyMS2
import Derived.Test.YtplngfammfdemaaZyUFit
namespace Go.Proofs.Ytplngfammfdemaa
open Go.RowKit Go.Proofs.YtplngfammfdemaaW.PrintWords Go.Proofs.YtplngfammfdemaaW.PrintLast Go.Proofs.YtplngfammfdemaaW.PrintMore Q
attribute [local go_sem] max2_int max_two
set_option linter.unusedVariables false
set_option linter.unusedSimpArgs false
theorem OwnAt.C {w : World} {ok : Nat → Prop} {base g cap : Nat} {cells : Array Value} {xs : List S31} {ad : Addr} (h : OwnAt w ok base g cap cells xs) (e : RowAd ad g) : Kd.C k31 w (some ad) xs.length xs := by
  rw [e.eq]
  obtain ⟨A, c, e, hl, hF⟩ := h.kids.V (base := 0) (cap := cap) (ok' := fun k => ok k ∨ k = g) h.fit (.inr rfl) (fun k hk => .inl hk)
  simp only [Value.slice.injEq] at e
  obtain ⟨rfl, _, rfl⟩ := e
  exact Kd.F_now hF
section
variable {w w1 : World} {ok : Nat → Prop} {p : Addr} {lo hi nb n : Nat} {A : Option Addr} {ys : List S31} {v0 v1 v2 v3 : Value}
theorem F_farP (h : Kd.F k31 w ok A n ys) (hp : ∀ k, ok k → k ≠ p.block) : Kd.F k31 ((((w.setCell p v0).setCell ⟨p.block, p.off + 1, none⟩ v1).setCell ⟨p.block, p.off + 2, none⟩ v2).setCell ⟨p.block, p.off + 3, none⟩ v3) ok A n ys :=
  Kd.F_far (p := ⟨p.block, p.off + 3, none⟩) (Kd.F_far (p := ⟨p.block, p.off + 2, none⟩) (Kd.F_far (p := ⟨p.block, p.off + 1, none⟩) (Kd.F_far (p := p) h hp _) hp _) hp _) hp _
theorem OwnK.farP (h : OwnK lo hi w A n) (hp : p.block < lo ∨ hi ≤ p.block) : OwnK lo hi ((((w.setCell p v0).setCell ⟨p.block, p.off + 1, none⟩ v1).setCell ⟨p.block, p.off + 2, none⟩ v2).setCell ⟨p.block, p.off + 3, none⟩ v3) A n :=
  (((h.far (p := p) hp v0).far (p := ⟨p.block, p.off + 1, none⟩) hp v1).far (p := ⟨p.block, p.off + 2, none⟩) hp v2).far (p := ⟨p.block, p.off + 3, none⟩) hp v3
theorem only_blkK (h : OnlyRow w w1 nb) {b : Nat} (hb : b ≠ nb) {o : Obj} (ho : w.heap[b]? = some o) : w1.heap[b]? = some o :=
  (h.2 b (blk_lt ho) hb).trans ho
end
theorem take_set (xs : List S31) (i : Nat) (y : S31) : (xs.set i y).take i = xs.take i := by
  rw [List.take_set_of_le (Nat.le_refl _)]
theorem drop_set (xs : List S31) (i : Nat) (y : S31) : (xs.set i y).drop (i + 1) = xs.drop (i + 1) := by
  rw [List.drop_set_of_lt (by omega)]
theorem putL_cells {w : World} {ok : Nat → Prop} {g j : Nat} {cells : Array Value} {x : S31} {v0 v1 v2 v3 : Value} (hb : w.heap[g]? = some (.cells cells 31 (0, 0))) (h : TreeAt w ok cells j x) :
    ((((w.setCell ⟨g, 4 * j, none⟩ v0).setCell ⟨g, 4 * j + 1, none⟩ v1).setCell ⟨g, 4 * j + 2, none⟩ v2).setCell ⟨g, 4 * j + 3, none⟩ v3).cell? ⟨g, 4 * j, none⟩ = some v0 ∧ ((((w.setCell ⟨g, 4 * j, none⟩ v0).setCell ⟨g, 4 * j + 1, none⟩ v1).setCell ⟨g, 4 * j + 2, none⟩ v2).setCell ⟨g, 4 * j + 3, none⟩ v3).cell? ⟨g, 4 * j + 1, none⟩ = some v1 ∧
    ((((w.setCell ⟨g, 4 * j, none⟩ v0).setCell ⟨g, 4 * j + 1, none⟩ v1).setCell ⟨g, 4 * j + 2, none⟩ v2).setCell ⟨g, 4 * j + 3, none⟩ v3).cell? ⟨g, 4 * j + 2, none⟩ = some v2 ∧ ((((w.setCell ⟨g, 4 * j, none⟩ v0).setCell ⟨g, 4 * j + 1, none⟩ v1).setCell ⟨g, 4 * j + 2, none⟩ v2).setCell ⟨g, 4 * j + 3, none⟩ v3).cell? ⟨g, 4 * j + 3, none⟩ = some v3 := by
  have hB := blk_put (blk_put (blk_put (blk_put hb (4 * j) v0 rfl) (4 * j + 1) v1 rfl) (4 * j + 2) v2 rfl) (4 * j + 3) v3 rfl
  obtain ⟨A0, c0, q1, q2, q3⟩ := h.c3
  refine ⟨(blk_cell hB _).trans ?_, (blk_cell hB _).trans ?_, (blk_cell hB _).trans ?_, (blk_cell hB _).trans ?_⟩
  · rw [set_ne _ _ _ _ (by omega), set_ne _ _ _ _ (by omega), set_ne _ _ _ _ (by omega)]; exact set_eq _ _ _ (by rw [h.c0]; rfl)
  · rw [set_ne _ _ _ _ (by omega), set_ne _ _ _ _ (by omega)]; exact set_eq _ _ _ (by rw [set_ne _ _ _ _ (by omega), h.c1]; rfl)
  · rw [set_ne _ _ _ _ (by omega)]; exact set_eq _ _ _ (by rw [set_ne _ _ _ _ (by omega), set_ne _ _ _ _ (by omega), h.c2]; rfl)
  · exact set_eq _ _ _ (by rw [set_ne _ _ _ _ (by omega), set_ne _ _ _ _ (by omega), set_ne _ _ _ _ (by omega), q1]; rfl)
theorem set_one (zs : List S31) (j : Nat) (q : S31) (h : zs.length = 1) (hj : j = 0) : zs.set j q = [q] := by
  subst hj
  match zs, h with
  | [y], _ => rfl
theorem modify_set (zs : List S31) (j : Nat) (hj : j < zs.length) (f : S31 → S31) : zs.modify j f = zs.set j (f zs[j]) := by
  apply List.ext_getElem?
  intro n
  rw [List.getElem?_modify]
  by_cases e : j = n
  · subst e
    rw [List.getElem?_set_self hj, List.getElem?_eq_getElem hj]
    simp
  · rw [List.getElem?_set_ne e]
    simp [e]
theorem OwnAt.setSizeL {w : World} {ok : Nat → Prop} {base g cap j : Nat} {cells : Array Value} {xs : List S31} {x : S31} (h : OwnAt w ok base g cap cells xs) (hj : xs[j]? = some x) (s : Int) : OwnAt (w.setCell ⟨g, 4 * j + 2, none⟩ (.int .i64 s)) ok base g cap (cells.setIfInBounds (4 * j + 2) (.int .i64 s)) (xs.set j ⟨x.f0, x.f1, s, x.f3⟩) :=
  ⟨h.kids.size hj s, h.low, by rw [List.length_set]; exact h.fit, h.most, by rw [Array.size_setIfInBounds]; exact h.size⟩
/-- Which kid it is, and what becomes of the tree. -/
theorem kill_at (k : Nat) (t : S31) (w h pane : Int) (hx : ∃ x ∈ t.f3, hasA pane x = true) : ∃ i, ∃ hi : i < t.f3.length, idxT (hasA pane) t.f3 = (i : Int) ∧ hasA pane t.f3[i] = true ∧ killR (k + 1) t w h pane =
    (if t.f3[i].f0 = 0 then onlyR t ((t.f3.eraseIdx i).modify (i - 1) (heirR k t.f0 w h (t.f3[i].f2 + 1))) else if (killR k t.f3[i] (kwd t.f0 t.f3[i].f2 w) (khd t.f0 t.f3[i].f2 h) pane).f0 = t.f0 then
        ⟨t.f0, t.f1, t.f2, t.f3.take i ++ (killR k t.f3[i] (kwd t.f0 t.f3[i].f2 w) (khd t.f0 t.f3[i].f2 h) pane).f3 ++ t.f3.drop (i + 1)⟩
      else ⟨t.f0, t.f1, t.f2, t.f3.set i (withSize (killR k t.f3[i] (kwd t.f0 t.f3[i].f2 w) (khd t.f0 t.f3[i].f2 h) pane) t.f3[i].f2)⟩) := by
  obtain ⟨h1, h2⟩ := idx_kid pane t.f3 hx
  exact ⟨_, h2, h1, List.findIdx_getElem (w := h2), by simp only [killR]; rw [List.getElem?_eq_getElem h2]⟩
theorem nodup_kid {d : Nat} {t : S31} {w h : Int} (hm : Mk (d + 1) t w h) (hd : d + 1 ≤ 20) (h0 : t.f0 ≠ 0) (hn : (psA t).Nodup) (x : S31) (hx : x ∈ t.f3) : (psA x).Nodup := by
  rw [psA_node hm hd h0, List.Nodup, List.pairwise_flatMap] at hn
  exact hn.1 x hx
set_option maxHeartbeats 16000000 in
set_option maxRecDepth 100000 in
theorem kill_calls : ∀ (d : Nat) (t : S31) (w0 h0 : Int), Mk d t w0 h0 → 1 ≤ w0 → w0 ≤ 80 → 1 ≤ h0 → h0 ≤ 80 → d ≤ 19 → (psA t).Nodup → t.f0 ≠ 0 → ∀ (k : Nat), d ≤ k → ∀ (pane : Int), pane ∈ psA t →
    ∀ (w : World) (ok : Nat → Prop) (A : Option Addr) (c : Nat), Kd.F k31 w ok A t.f3.length t.f3 → t.f3.length ≤ c →
    Calls Try.prog 76 #[.agg #[.int .i64 t.f0, .int .i64 t.f1, .int .i64 t.f2, .slice A t.f3.length c], .int .i64 w0, .int .i64 h0, .int .i64 pane] w fun e w' => TreeNew w w' ok e (killR k t w0 h0 pane) := by
  intro d
  induction d with
  | zero => intro t w0 h0 hm; exact hm.elim
  | succ d ih =>
    intro t w0 h0 hm w1 w8 h1 h8 hd hnd k0 k hk pane hpa w ok A c hF hc
    obtain ⟨k, rfl⟩ : ∃ m, k = m + 1 := ⟨k - 1, by omega⟩
    have hu31 := Try.underlying31
    have IH := Aside0.mk ih
    have HBD := Aside0.mk (And.intro (And.intro w1 (And.intro w8 (And.intro h1 h8))) (And.intro hd hk))
    have HND := Aside0.mk (nodup_kid hm (by omega) k0 hnd)
    have hkid := kid_of hm (by omega) k0 hpa
    have KIDS := Aside0.mk (hm.kids k0)
    have hlen := mk_kids hm w8 h8
    have HSUM : Aside0 (sumF t.f3 + t.f3.length - 1 ≤ 80) := ⟨by have := KIDS.out.2.2.2.2; unfold alo at this; split at this <;> omega⟩
    have MKALL : Aside0 (MkAll t.f3) := ⟨fun x hx => ⟨d, _, _, (KIDS.out.2.2.2.1 x hx).2.2.2, (kid_box (kind := t.f0) (KIDS.out.2.2.2.1 x hx).2.1 (KIDS.out.2.2.2.1 x hx).2.2.1 w1 w8 h1 h8).1, (kid_box (kind := t.f0) (KIDS.out.2.2.2.1 x hx).2.1 (KIDS.out.2.2.2.1 x hx).2.2.1 w1 w8 h1 h8).2.1, (kid_box (kind := t.f0) (KIDS.out.2.2.2.1 x hx).2.1 (KIDS.out.2.2.2.1 x hx).2.2.1 w1 w8 h1 h8).2.2.1, (kid_box (kind := t.f0) (KIDS.out.2.2.2.1 x hx).2.1 (KIDS.out.2.2.2.1 x hx).2.2.1 w1 w8 h1 h8).2.2.2, by omega⟩⟩
    have HP : Aside0 (0 < t.f3.length) := ⟨by have := KIDS.out.2.2.1; omega⟩
    have HN : Aside0 (t.f3.length ≤ 1000000) := ⟨by omega⟩
    have LEN := Aside0.mk hlen
    have K0 := Aside0.mk k0
    obtain ⟨i, hii, hidx, ha, hKR⟩ := kill_at k t w0 h0 pane hkid
    have KR := Aside0.mk hKR
    have HIDX := Aside0.mk hidx
    have HF := Aside0.mk (F_cut hF)
    have HCC := Aside0.mk hc
    have HB := Aside0.mk (Below.refl w.heap.size w)
    have p22 : (0 ≤ (i : Int)) = True := eq_true (by omega)
    have q22 : ((i : Int) < (t.f3.length : Int)) = True := eq_true (by omega)
    clear ih hm hF hc hk w1 w8 h1 h8 hd hpa hlen k0 hnd hkid hKR hidx
    go_enter Try.func76, Try.ntmps76
    go_upto_region 2 with (first | ((with_reducible refine gate_dst (N := 4) rfl ?_); (try (refine gate_guard (by rfl) ?_; dsimp only)); refine box_event ?hg (N := 4) ?hd (cs := #[.int .i64 t.f0, .int .i64 t.f1, .int .i64 t.f2, .slice A t.f3.length c]) (t := 31) ?hr ?_; (case hd => rfl); (case hg => rfl); (case hr => first | (go_simp; done) | (go_simp; rfl)); intro gT hg wT hbox hb; have BT := Aside0.mk hbox; have GT := Aside0.mk (by rw [hg]; exact below_size HB.out : w.heap.size ≤ gT); replace HB := Aside0.mk (below_step HB.out hb); replace HF := Aside0.mk (Kd.F_below HF.out hb); clear hb hbox hg; obtain ⟨z0, z1, z2, z3, f0, f1, f2, f3⟩ := cz4 BT.out) | ((with_reducible refine gate_dst (N := 7) rfl ?_); (try (refine gate_guard (by rfl) ?_; dsimp only)); refine box_event ?hg (N := 7) ?hd (cs := #[.int .i64 pane]) (t := 3) ?hr ?_; (case hd => rfl); (case hg => rfl); (case hr => first | (go_simp; done) | (go_simp; rfl)); intro gP hg wP hbox hb; have BP := Aside0.mk hbox; have GP := Aside0.mk (by rw [hg]; exact below_size HB.out : w.heap.size ≤ gP); have NTP := Aside0.mk (by rw [hg]; exact lt1 BT.out : gT ≠ gP); have NPT := Aside0.mk (by rw [hg]; exact gt1 BT.out : gP ≠ gT); replace BT := Aside0.mk (bb hb BT.out); replace HB := Aside0.mk (below_step HB.out hb); replace HF := Aside0.mk (Kd.F_below HF.out hb); clear hb hbox hg z0 z1 z2 z3 f0 f1 f2 f3; obtain ⟨z0, z1, z2, z3, f0, f1, f2, f3⟩ := cz4 BT.out) | ((with_reducible refine gate_dst (N := 8) rfl ?_); (try (refine gate_guard (by rfl) ?_; dsimp only)); refine box_event ?hg (N := 8) ?hd (cs := #[.int .i64 0, .int .i64 0, .int .i64 0, .slice none 0 0]) (t := 31) ?hr ?_; (case hd => rfl); (case hg => rfl); (case hr => first | (go_simp; done) | (go_simp; rfl)); intro gR hg wR hbox hb; have BR := Aside0.mk hbox; have GR := Aside0.mk (by rw [hg]; exact below_size HB.out : w.heap.size ≤ gR); have NTR := Aside0.mk (by rw [hg]; exact lt1 BT.out : gT ≠ gR); have NRT := Aside0.mk (by rw [hg]; exact gt1 BT.out : gR ≠ gT); have NRP := Aside0.mk (by rw [hg]; exact gt1 BP.out : gR ≠ gP); replace BT := Aside0.mk (bb hb BT.out); replace BP := Aside0.mk (bb hb BP.out); replace HB := Aside0.mk (below_step HB.out hb); replace HF := Aside0.mk (Kd.F_below HF.out hb); have WLE := Aside0.mk (HB.out.size); clear hb hbox hg z0 z1 z2 z3 f0 f1 f2 f3; obtain ⟨z0, z1, z2, z3, f0, f1, f2, f3⟩ := cz4 BT.out) | (go_at_call 109; refine (clone_tree _ (fun k => ok k ∧ k < w.heap.size) A c t.f3 HF.out HCC.out HP.out HN.out (fun k hk => Nat.lt_of_lt_of_le hk.2 WLE.out)).mono ?_; rintro e w2 ⟨g, cap, cells, rfl, HO0, hb⟩; have HO := Aside0.mk HO0; have GG := Aside0.mk HO0.low; have GTG := Aside0.mk (Nat.ne_of_lt (Nat.lt_of_lt_of_le (blk_lt BT.out) GG.out) : gT ≠ g); have NTG9 := Aside0.mk (Nat.lt_of_lt_of_le (blk_lt BT.out) GG.out : gT < g); have GRG := Aside0.mk (Nat.ne_of_lt (Nat.lt_of_lt_of_le (blk_lt BR.out) GG.out) : gR ≠ g); have GRL := Aside0.mk (Nat.lt_of_lt_of_le (blk_lt BR.out) GG.out : gR < g); have GPG := Aside0.mk (Nat.ne_of_lt (Nat.lt_of_lt_of_le (blk_lt BP.out) GG.out) : gP ≠ g); replace BT := Aside0.mk (bb hb BT.out); replace BR := Aside0.mk (bb hb BR.out); replace BP := Aside0.mk (bb hb BP.out); replace HB := Aside0.mk (below_step HB.out hb); clear hb HO0 z0 z1 z2 z3 f0 f1 f2 f3; obtain ⟨z0, z1, z2, z3, f0, f1, f2, f3⟩ := cz4 BT.out))
    have hBT := blk_put BT.out 3 (.slice (some ⟨g, 0, none⟩) t.f3.length cap) rfl
    have hBR := blk_far (p := ⟨gT, 3, none⟩) BR.out NRT.out (.slice (some ⟨g, 0, none⟩) t.f3.length cap)
    have hBP := blk_far (p := ⟨gT, 3, none⟩) BP.out NPT.out (.slice (some ⟨g, 0, none⟩) t.f3.length cap)
    have hHO := HO.out.far (p := ⟨gT, 3, none⟩) GTG.out (fun k hk => by have := GT.out; have := hk.2; show k ≠ gT; omega) (.slice (some ⟨g, 0, none⟩) t.f3.length cap)
    have hHB := below_set (j := 3) (v := .slice (some ⟨g, 0, none⟩) t.f3.length cap) HB.out GT.out
    clear z0 z1 z2 z3 f0 f1 f2 f3 BT BR BP HO HB HF
    generalize hAD : (⟨g, 0, none⟩ : Addr) = ad at hBT hBR hBP hHO hHB ⊢
    have AD : RowAd ad g := ⟨hAD.symm⟩
    generalize hw4 : w2.setCell ⟨gT, 3, none⟩ (.slice (some ad) t.f3.length cap) = w4 at hBT hBR hBP hHO hHB ⊢
    have hix := index_trees 111 _ #[.pointer (some ⟨gP, 0, none⟩)] Try.func111 (by kernel_rfl) (by kernel_rfl) (hasA pane) (some ad) cap t.f3 w4 (hHO.C AD) hHO.fit (by have := HN.out; omega) (pred111 w4 gP pane t.f3 hBP MKALL.out) _ HIDX.out
    have BT := Aside0.mk hBT
    have BR := Aside0.mk hBR
    have BP := Aside0.mk hBP
    have HO := Aside0.mk hHO
    have HB := Aside0.mk hHB
    have HIX := Aside0.mk hix
    clear hw4 hAD hBT hBR hBP hHO hHB hix
    obtain ⟨z0, z1, z2, z3, f0, f1, f2, f3⟩ := cz4 BT.out
    go_upto_region 3 with (first | (go_at_call 110; refine HIX.out.mono ?_; rintro e w5 ⟨rfl, hb⟩; replace BT := Aside0.mk (bb hb BT.out); replace BR := Aside0.mk (bb hb BR.out); replace BP := Aside0.mk (bb hb BP.out); replace HO := Aside0.mk (HO.out.below hb); replace HB := Aside0.mk (below_step HB.out hb); clear hb z0 z1 z2 z3 f0 f1 f2 f3; obtain ⟨z0, z1, z2, z3, f0, f1, f2, f3⟩ := cz4 BT.out))
    obtain ⟨xA, xc, hxv, x0, x1, x2, x3⟩ := HO.out.kids.got (j := i) (List.getElem?_eq_getElem hii) AD
    obtain ⟨xA', xc', hxe, hxl, hxF⟩ := hxv
    simp only [Value.agg.injEq, Array.mk.injEq, List.cons.injEq, Value.slice.injEq, and_true, true_and] at hxe
    obtain ⟨rfl, rfl⟩ := hxe
    have HXF := Aside0.mk hxF
    have HL3 := Aside0.mk hxl
    have YM := Aside0.mk (KIDS.out.2.2.2.1 _ (List.getElem_mem hii))
    have KBX := Aside0.mk (kid_box (kind := t.f0) YM.out.2.1 YM.out.2.2.1 HBD.out.1.1 HBD.out.1.2.1 HBD.out.1.2.2.1 HBD.out.1.2.2.2)
    clear hxl hxF HIX
    go_upto_region 4 with (first | ((with_reducible refine gate_dst (N := 10) rfl ?_); (try (refine gate_guard (by rfl) ?_; dsimp only)); refine box_event ?hg (N := 10) ?hd (cs := #[.int .i64 0, .int .i64 0, .int .i64 0, .slice none 0 0]) (t := 31) ?hr ?_; (case hd => rfl); (case hg => rfl); (case hr => first | (go_simp; done) | (go_simp; rfl)); intro gK hg wK hbox hb; have BK := Aside0.mk hbox; have GK := Aside0.mk (by rw [hg]; exact below_size HB.out : w.heap.size ≤ gK); have NTK := Aside0.mk (by rw [hg]; exact lt1 BT.out : gT ≠ gK); have NKT := Aside0.mk (by rw [hg]; exact gt1 BT.out : gK ≠ gT); have NRK := Aside0.mk (by rw [hg]; exact lt1 BR.out : gR ≠ gK); have NPK := Aside0.mk (by rw [hg]; exact lt1 BP.out : gP ≠ gK); have NGK := Aside0.mk (by rw [hg]; exact lt1 HO.out.kids.blk : g ≠ gK); replace BT := Aside0.mk (bb hb BT.out); replace BR := Aside0.mk (bb hb BR.out); replace BP := Aside0.mk (bb hb BP.out); replace HO := Aside0.mk (HO.out.below hb); replace HXF := Aside0.mk (Kd.F_below HXF.out hb); replace HB := Aside0.mk (below_step HB.out hb); replace x0 := (hb.cell (World.block_lt_of_cell? _ _ x0)).trans x0; replace x1 := (hb.cell (World.block_lt_of_cell? _ _ x1)).trans x1; replace x2 := (hb.cell (World.block_lt_of_cell? _ _ x2)).trans x2; replace x3 := (hb.cell (World.block_lt_of_cell? _ _ x3)).trans x3; clear hb hbox hg z0 z1 z2 z3 f0 f1 f2 f3; obtain ⟨z0, z1, z2, z3, f0, f1, f2, f3⟩ := cz4 BT.out; have nTK := NTK.out; have nKT := NKT.out; have nGK := NGK.out; obtain ⟨y0, y1, y2, y3, e0, e1, e2, e3⟩ := cz4 BK.out))
    have hBT := far4 (v0 := .int .i64 t.f3[i].f0) (v1 := .int .i64 t.f3[i].f1) (v2 := .int .i64 t.f3[i].f2) (v3 := .slice xA t.f3[i].f3.length xc) NTK.out BT.out
    have hBR := far4 (v0 := .int .i64 t.f3[i].f0) (v1 := .int .i64 t.f3[i].f1) (v2 := .int .i64 t.f3[i].f2) (v3 := .slice xA t.f3[i].f3.length xc) NRK.out BR.out
    have hBP := far4 (v0 := .int .i64 t.f3[i].f0) (v1 := .int .i64 t.f3[i].f1) (v2 := .int .i64 t.f3[i].f2) (v3 := .slice xA t.f3[i].f3.length xc) NPK.out BP.out
    have hBK := put4 (v0 := .int .i64 t.f3[i].f0) (v1 := .int .i64 t.f3[i].f1) (v2 := .int .i64 t.f3[i].f2) (v3 := .slice xA t.f3[i].f3.length xc) BK.out
    have hHO := OwnAt.far4 (v0 := .int .i64 t.f3[i].f0) (v1 := .int .i64 t.f3[i].f1) (v2 := .int .i64 t.f3[i].f2) (v3 := .slice xA t.f3[i].f3.length xc) HO.out (Ne.symm NGK.out) (fun k hk => by have := GK.out; have := hk.2; show k ≠ gK; omega)
    have hXF := F_far4 (v0 := .int .i64 t.f3[i].f0) (v1 := .int .i64 t.f3[i].f1) (v2 := .int .i64 t.f3[i].f2) (v3 := .slice xA t.f3[i].f3.length xc) HXF.out (fun k hk => by have := GK.out; have := hk.2; show k ≠ gK; omega)
    have hHB := below_set (j := 3) (v := .slice xA t.f3[i].f3.length xc) (below_set (j := 2) (v := .int .i64 t.f3[i].f2) (below_set (j := 1) (v := .int .i64 t.f3[i].f1) (below_set (j := 0) (v := .int .i64 t.f3[i].f0) HB.out GK.out) GK.out) GK.out) GK.out
    generalize hw8 : ((((wK.setCell ⟨gK, 0, none⟩ (.int .i64 t.f3[i].f0)).setCell ⟨gK, 1, none⟩ (.int .i64 t.f3[i].f1)).setCell ⟨gK, 2, none⟩ (.int .i64 t.f3[i].f2)).setCell ⟨gK, 3, none⟩ (.slice xA t.f3[i].f3.length xc)) = w8 at hBT hBR hBP hBK hHO hXF hHB ⊢
    clear hw8 z0 z1 z2 z3 f0 f1 f2 f3 x0 x1 x2 x3 y0 y1 y2 y3 e0 e1 e2 e3 BT BR BP BK HO HXF HB
    have BT := Aside0.mk hBT
    have BR := Aside0.mk hBR
    have BP := Aside0.mk hBP
    have BK := Aside0.mk hBK
    have HO := Aside0.mk hHO
    have HXF := Aside0.mk hXF
    have HB := Aside0.mk hHB
    clear hBT hBR hBP hBK hHO hXF hHB
    obtain ⟨z0, z1, z2, z3, f0, f1, f2, f3⟩ := cz4 BT.out
    obtain ⟨y0, y1, y2, y3, e0, e1, e2, e3⟩ := cz4 BK.out
    have py0 := (blk_cell BP.out 0).trans (show _ = some (Value.int .i64 pane) from rfl)
    have nTA : gT ≠ g := GTG.out
    have nRA : gR ≠ g := GRG.out
    have nKA : gK ≠ g := Ne.symm NGK.out
    by_cases c0 : t.f3[i].f0 = 0
    · have c1 : (t.f3[i].f0 == 0) = true := beq_iff_eq.mpr c0
      have c1' : (t.f3[i].f0 != 0) = false := by rw [bne, c1]; rfl
      go_upto_region 12 with (fail)
      have hdel := delete_tree HO.out (by have := blk_lt HO.out.kids.blk; have := GG.out; omega) (by have := LEN.out; omega) (fun k hk => ⟨HO.out.kids.apart k hk, by have := hk.2; have := HB.out.size; omega⟩) i hii
      have hKR := KR.out
      rw [if_pos c0, List.eraseIdx_eq_take_drop_succ] at hKR
      rw [show ((i + 1 : Nat) : Int) = (i : Int) + 1 by omega] at hdel
      have hzl : (t.f3.take i ++ t.f3.drop (i + 1)).length + 1 = t.f3.length := by simp only [List.length_append, List.length_take, List.length_drop]; omega
      have hzm : ∀ z ∈ t.f3.take i ++ t.f3.drop (i + 1), z ∈ t.f3 := fun z hz => (List.mem_append.1 hz).elim (fun h => List.mem_of_mem_take h) (fun h => List.mem_of_mem_drop h)
      generalize hzs : t.f3.take i ++ t.f3.drop (i + 1) = zs at hdel hKR hzl hzm
      have HDEL := Aside0.mk hdel
      replace KR := Aside0.mk hKR
      have HZL := Aside0.mk hzl
      have HZM := Aside0.mk hzm
      have C0 := Aside0.mk c0
      have nTA2 : Aside0 (gT ≠ g) := ⟨nTA⟩
      have nKA2 : Aside0 (gK ≠ g) := ⟨nKA⟩
      have w5' : wrap64 ((i : Int) + 1) = (i : Int) + 1 := by have := LEN.out; unfold wrap64; omega
      have w6' : wrap64 ((i : Int) - 1) = (i : Int) - 1 := by have := LEN.out; unfold wrap64; omega
      have ADE := AD.eq
      subst ADE
      clear hdel hKR hzl hzs hzm c0
      go_upto_region 13 with (first | (go_at_call 113; refine HDEL.out.mono ?_; rintro e w12 ⟨g', cap', cells', rfl, hO2, hgg, hOR, hbl⟩; have HO2 := Aside0.mk hO2; have HGG := Aside0.mk hgg; have GTL := Aside0.mk (blk_lt BT.out); have GRL2 := Aside0.mk (blk_lt BR.out); have GKL := Aside0.mk (blk_lt BK.out); have GGL := Aside0.mk (blk_lt HO.out.kids.blk); replace BT := Aside0.mk (only_blkK hOR nTA2.out BT.out); replace BR := Aside0.mk (only_blkK hOR GRG.out BR.out); replace BK := Aside0.mk (only_blkK hOR nKA2.out BK.out); replace HB := Aside0.mk (HB.out.trans (hbl.mono WLE.out)); clear hO2 hgg hOR hbl HO z0 z1 z2 z3 f0 f1 f2 f3 y0 y1 y2 y3 e0 e1 e2 e3; obtain ⟨z0, z1, z2, z3, f0, f1, f2, f3⟩ := cz4 BT.out))
      have GTG2 : Aside0 (gT ≠ g') := ⟨by have := HGG.out; have := GTL.out; have := nTA; omega⟩
      have GRG2 : Aside0 (gR ≠ g') := ⟨by have := HGG.out; have := GRL2.out; have := nRA; omega⟩
      have GKG2 : Aside0 (gK ≠ g') := ⟨by have := HGG.out; have := GKL.out; have := nKA; omega⟩
      have GG2 : Aside0 (w.heap.size ≤ g') := ⟨by have := HGG.out; have := GG.out; have := WLE.out; have := GGL.out; omega⟩
      have GRL3 : Aside0 (gR < g') := ⟨by have := HGG.out; have := GRL.out; have := GRL2.out; omega⟩
      have hBT := blk_put BT.out 3 (.slice (some ⟨g', 0, none⟩) zs.length cap') rfl
      have hBR := blk_far (p := ⟨gT, 3, none⟩) BR.out NRT.out (.slice (some ⟨g', 0, none⟩) zs.length cap')
      have hBK := blk_far (p := ⟨gT, 3, none⟩) BK.out NKT.out (.slice (some ⟨g', 0, none⟩) zs.length cap')
      have hHO := HO2.out.far (p := ⟨gT, 3, none⟩) GTG2.out (fun k hk => by have := GT.out; have := hk.2; show k ≠ gT; omega) (.slice (some ⟨g', 0, none⟩) zs.length cap')
      have hHB := below_set (j := 3) (v := .slice (some ⟨g', 0, none⟩) zs.length cap') HB.out GT.out
      generalize hAD2 : (⟨g', 0, none⟩ : Addr) = ad2 at hBT hBR hBK hHO hHB ⊢
      have AD2 : RowAd ad2 g' := ⟨hAD2.symm⟩
      generalize hw13 : w12.setCell ⟨gT, 3, none⟩ (.slice (some ad2) zs.length cap') = w13 at hBT hBR hBK hHO hHB ⊢
      clear hw13 hAD2 z0 z1 z2 z3 f0 f1 f2 f3 BT BR BK HO2 HB
      have BT := Aside0.mk hBT
      have BR := Aside0.mk hBR
      have BK := Aside0.mk hBK
      have HO := Aside0.mk hHO
      have HB := Aside0.mk hHB
      clear hBT hBR hBK hHO hHB
      obtain ⟨z0, z1, z2, z3, f0, f1, f2, f3⟩ := cz4 BT.out
      obtain ⟨y0, y1, y2, y3, e0, e1, e2, e3⟩ := cz4 BK.out
      go_upto_region 14 with (fail)
      obtain ⟨j, hj⟩ : ∃ j : Nat, j = i - 1 := ⟨_, rfl⟩
      have eJ : ∀ [inst : Decidable ((i : Int) - 1 < 0)], (@ite Int ((i : Int) - 1 < 0) inst 0 ((i : Int) - 1)) = (j : Int) := by intro inst; split <;> omega
      simp only [eJ]
      have hjl : j < zs.length := by have := HZL.out; have := KIDS.out.2.2.1; omega
      have HJ := Aside0.mk hj
      have p23 : (0 ≤ (j : Int)) = True := eq_true (by omega)
      have q23 : ((j : Int) < (zs.length : Int)) = True := eq_true (by omega)
      have ZM := Aside0.mk (KIDS.out.2.2.2.1 _ (HZM.out _ (List.getElem_mem hjl)))
      have w7' : wrap64 (t.f3[i].f2 + 1) = t.f3[i].f2 + 1 := by have := YM.out.2.2.1; have := YM.out.2.1; unfold wrap64; omega
      have w8' : wrap64 (zs[j].f2 + (t.f3[i].f2 + 1)) = zs[j].f2 + (t.f3[i].f2 + 1) := by have := YM.out.2.2.1; have := YM.out.2.1; have := ZM.out.2.2.1; have := ZM.out.2.1; unfold wrap64; omega
      have nTA3 : gT ≠ g' := GTG2.out
      have nKA3 : gK ≠ g' := GKG2.out
      clear hj eJ
      have AT2 := AD2.at j
      have xf2 := HO.out.kids.frozen (4 * j + 2)
      obtain ⟨_, _, x2, _, _, _, _, _⟩ := HO.out.kids.cell (j := j) (List.getElem?_eq_getElem hjl)
      go_region
      have hBT := blk_drew (blk_far (p := ⟨g', 4 * j + 2, none⟩) BT.out nTA3 (.int .i64 (zs[j].f2 + (t.f3[i].f2 + 1))))
      have hBR := blk_drew (blk_far (p := ⟨g', 4 * j + 2, none⟩) BR.out GRG2.out (.int .i64 (zs[j].f2 + (t.f3[i].f2 + 1))))
      have hHO := (HO.out.setSizeL (List.getElem?_eq_getElem hjl) (zs[j].f2 + (t.f3[i].f2 + 1))).below (below_drew (Below.refl _ _))
      have hHB := below_drew (below_set (j := 4 * j + 2) (v := .int .i64 (zs[j].f2 + (t.f3[i].f2 + 1))) HB.out GG2.out)
      generalize hw14 : (w13.setCell ⟨g', 4 * j + 2, none⟩ (.int .i64 (zs[j].f2 + (t.f3[i].f2 + 1)))).drew = w14 at hBT hBR hHO hHB ⊢
      clear hw14 z0 z1 z2 z3 f0 f1 f2 f3 y0 y1 y2 y3 e0 e1 e2 e3 x2 xf2 BT BR BK HO HB
      have BT := Aside0.mk hBT
      have BR := Aside0.mk hBR
      have HO := Aside0.mk hHO
      have HB := Aside0.mk hHB
      clear hBT hBR hHO hHB
      have ZMK : Aside0 (Mk d ⟨zs[j].f0, zs[j].f1, zs[j].f2 + (t.f3[i].f2 + 1), zs[j].f3⟩ (kwd t.f0 zs[j].f2 w0) (khd t.f0 zs[j].f2 h0)) := ⟨mk_size (zs[j].f2 + (t.f3[i].f2 + 1)) ZM.out.2.2.2⟩
      have ZBX := Aside0.mk (kid_box (kind := t.f0) ZM.out.2.1 ZM.out.2.2.1 HBD.out.1.1 HBD.out.1.2.1 HBD.out.1.2.2.1 HBD.out.1.2.2.2)
      have ZWH : Aside0 ((-(1000000 + 5000 * (20 - (d : Int))) ≤ kwd t.f0 (zs[j].f2 + (t.f3[i].f2 + 1)) w0 ∧ kwd t.f0 (zs[j].f2 + (t.f3[i].f2 + 1)) w0 ≤ 1000000 + 5000 * (20 - (d : Int))) ∧ (-(1000000 + 5000 * (20 - (d : Int))) ≤ khd t.f0 (zs[j].f2 + (t.f3[i].f2 + 1)) h0 ∧ khd t.f0 (zs[j].f2 + (t.f3[i].f2 + 1)) h0 ≤ 1000000 + 5000 * (20 - (d : Int)))) := ⟨by
        have q1 := HBD.out
        have q2 := ZM.out.2
        have q3 := YM.out.2
        unfold kwd khd
        split <;> omega⟩
      have hKR := KR.out
      rw [← HJ.out, modify_set zs j hjl] at hKR
      replace KR := Aside0.mk (show killR (k + 1) t w0 h0 pane = onlyR t (zs.set j (fitR k ⟨zs[j].f0, zs[j].f1, zs[j].f2 + (t.f3[i].f2 + 1), zs[j].f3⟩ (kwd t.f0 (zs[j].f2 + (t.f3[i].f2 + 1)) w0) (khd t.f0 (zs[j].f2 + (t.f3[i].f2 + 1)) h0))) from hKR)
      have hat : (zs.set j ⟨zs[j].f0, zs[j].f1, zs[j].f2 + (t.f3[i].f2 + 1), zs[j].f3⟩)[j]? = some ⟨zs[j].f0, zs[j].f1, zs[j].f2 + (t.f3[i].f2 + 1), zs[j].f3⟩ := List.getElem?_set_self hjl
      have HAT := Aside0.mk hat
      clear hKR w7' w8' hat
      generalize hs9 : zs[j].f2 + (t.f3[i].f2 + 1) = s9 at HO ZMK ZWH KR HAT
      have SF := Aside0.mk (sized_f2 t.f0 zs[j].f0 zs[j].f1 s9 zs[j].f3 w0 h0)
      clear hs9
      obtain ⟨z0, z1, z2, z3, f0, f1, f2, f3⟩ := cz4 BT.out
      have xf0 := HO.out.kids.frozen (4 * j)
      have xf1 := HO.out.kids.frozen (4 * j + 1)
      have xf2 := HO.out.kids.frozen (4 * j + 2)
      have xf3 := HO.out.kids.frozen (4 * j + 3)
      obtain ⟨x0, x1, x2, zA, zc, x3, hzl, hzF⟩ := HO.out.kids.cell (j := j) HAT.out
      have HZF := Aside0.mk hzF
      have HZL := Aside0.mk hzl
      clear hzF hzl
      go_upto_region 15 with (fail)
      go_region_held3 (fun w' => w'.cell? ⟨gT, 0, none⟩ = some (.int .i64 t.f0) ∧ w'.cell? ⟨gT, 3, none⟩ = some (.slice (some ad2) zs.length cap') ∧ w'.cell? ⟨g', 4 * j, none⟩ = some (.int .i64 zs[j].f0) ∧ w'.cell? ⟨g', 4 * j + 1, none⟩ = some (.int .i64 zs[j].f1) ∧ w'.cell? ⟨g', 4 * j + 2, none⟩ = some (.int .i64 s9) ∧ w'.cell? ⟨g', 4 * j + 3, none⟩ = some (.slice zA zs[j].f3.length zc)) (first | exact ⟨z0, z3, x0, x1, x2, x3⟩ | exact ⟨z0', z3', x0', x1', x2', x3'⟩) (first | (go_at_call 96; (with_reducible refine (tree_sized.calls t.f0 zs[j].f0 zs[j].f1 s9 _ _ zs[j].f3 w0 h0 (kwd t.f0 s9 w0) (khd t.f0 s9 h0) _ ?side1 ?side2 SF.out).mono ?_); (case side1 => exact Kd.F_now (Kd.F_drew HZF.out)); (case side2 => exact HZL.out); rintro e w96 ⟨rfl, hb⟩; have z0' := (hb.cell (World.block_lt_of_cell? w14 _ z0)).trans z0; have z3' := (hb.cell (World.block_lt_of_cell? w14 _ z3)).trans z3; have x0' := (hb.cell (World.block_lt_of_cell? w14 _ x0)).trans x0; have x1' := (hb.cell (World.block_lt_of_cell? w14 _ x1)).trans x1; have x2' := (hb.cell (World.block_lt_of_cell? w14 _ x2)).trans x2; have x3' := (hb.cell (World.block_lt_of_cell? w14 _ x3)).trans x3))
      have hb' : Below w14.heap.size w14 w96 := below_step (below_drew (Below.refl _ _)) hb
      replace BT := Aside0.mk (bb hb' BT.out)
      replace BR := Aside0.mk (bb hb' BR.out)
      replace HO := Aside0.mk (HO.out.below hb')
      replace HZF := Aside0.mk (Kd.F_below HZF.out hb')
      replace HB := Aside0.mk (below_step HB.out hb')
      replace x0 := (hb'.cell (World.block_lt_of_cell? w14 _ x0)).trans x0
      replace x1 := (hb'.cell (World.block_lt_of_cell? w14 _ x1)).trans x1
      replace x2 := (hb'.cell (World.block_lt_of_cell? w14 _ x2)).trans x2
      replace x3 := (hb'.cell (World.block_lt_of_cell? w14 _ x3)).trans x3
      clear hb hb' z0 z1 z2 z3 f0 f1 f2 f3 z0' z3' x0' x1' x2' x3' xf0 xf1 xf2 xf3
      have hfit := fun (W' : World) (hb : Below w96.heap.size w96 W') => fit_calls d ⟨zs[j].f0, zs[j].f1, s9, zs[j].f3⟩ _ _ ZMK.out ZBX.out.1 ZBX.out.2.1 ZBX.out.2.2.1 ZBX.out.2.2.2 (by have := HBD.out.2.1; omega) k (Nat.le_of_succ_le_succ HBD.out.2.2) (kwd t.f0 s9 w0) (khd t.f0 s9 h0) ZWH.out.1.1 ZWH.out.1.2 ZWH.out.2.1 ZWH.out.2.2 W' _ zA zc (Kd.F_below HZF.out hb) HZL.out
      have hKR := KR.out
      generalize fitR k ⟨zs[j].f0, zs[j].f1, s9, zs[j].f3⟩ (kwd t.f0 s9 w0) (khd t.f0 s9 h0) = q at hfit hKR
      have HFIT := Aside0.mk hfit
      replace KR := Aside0.mk hKR
      have ADE2 := AD2
      have HLO := Aside0.mk (blk_lt HO.out.kids.blk)
      have HLT := Aside0.mk (blk_lt BT.out)
      have HLR := Aside0.mk (blk_lt BR.out)
      have APG : Aside0 (∀ k, (ok k ∧ k < w.heap.size ∨ g' < k) → k ≠ g') := ⟨fun k hk => by have := GG2.out; omega⟩
      clear hfit hKR
      go_upto_region 16 with (fail)
      obtain ⟨z0, z1, z2, z3, f0, f1, f2, f3⟩ := cz4 BT.out
      have xf0 := HO.out.kids.frozen (4 * j)
      have xf1 := HO.out.kids.frozen (4 * j + 1)
      have xf2 := HO.out.kids.frozen (4 * j + 2)
      have xf3 := HO.out.kids.frozen (4 * j + 3)
      have nTG3 : gT ≠ g' := GTG2.out
      go_region_with (first | (go_at_call 78; refine (HFIT.out _ (below_drew (Below.refl _ _))).mono ?_; rintro e w78 ⟨v, rfl, ⟨A6, c6, rfl, h6, hF6⟩, hOV, hb⟩; have z3' := (hb.cell (World.block_lt_of_cell? w96 _ z3)).trans z3; have x0' := (hb.cell (World.block_lt_of_cell? w96 _ x0)).trans x0; have x1' := (hb.cell (World.block_lt_of_cell? w96 _ x1)).trans x1; have x2' := (hb.cell (World.block_lt_of_cell? w96 _ x2)).trans x2; have x3' := (hb.cell (World.block_lt_of_cell? w96 _ x3)).trans x3; have HF6 := Aside0.mk hF6; have H6 := Aside0.mk h6; have HOV := Aside0.mk (OwnK.of hOV); have HBW := Aside0.mk (below_step (below_drew (Below.refl _ _)) hb : Below w96.heap.size w96 w78); have HOD := Aside0.mk (HO.out.below (below_step (below_drew (Below.refl _ _)) hb)); have xg0 := HOD.out.kids.frozen (4 * j); have xg1 := HOD.out.kids.frozen (4 * j + 1); have xg2 := HOD.out.kids.frozen (4 * j + 2); have xg3 := HOD.out.kids.frozen (4 * j + 3)))
      all_goals
        have hF7 : Kd.F k31 w78 (fun k => ok k ∧ k < w.heap.size ∨ g' < k) A6 q.f3.length q.f3 := Kd.F_mono HF6.out (fun k hk => hk.elim (fun hk => .inl hk) (fun hk => .inr (Nat.lt_of_lt_of_le HLO.out hk)))
        obtain ⟨cells2, hHO⟩ := ((HO.out.below HBW.out).mono (ok' := fun k => ok k ∧ k < w.heap.size ∨ g' < k) (fun k hk => .inl hk) APG.out).putL (j := j) (by rw [List.length_set]; exact hjl) q H6.out hF7
        rw [List.set_set] at hHO
        have hcs := putL_cells (HO.out.below HBW.out).kids.blk ((HO.out.below HBW.out).kids.at_ j _ HAT.out) (v0 := .int .i64 q.f0) (v1 := .int .i64 q.f1) (v2 := .int .i64 q.f2) (v3 := .slice A6 q.f3.length c6)
        have hsz := ((((OnlyRow.setCell w78 g' (4 * j) (.int .i64 q.f0)).trans (OnlyRow.setCell _ g' (4 * j + 1) (.int .i64 q.f1))).trans (OnlyRow.setCell _ g' (4 * j + 2) (.int .i64 q.f2))).trans (OnlyRow.setCell _ g' (4 * j + 3) (.slice A6 q.f3.length c6))).1
        have hBT := blk_farP (p := ⟨g', 4 * j, none⟩) (v0 := .int .i64 q.f0) (v1 := .int .i64 q.f1) (v2 := .int .i64 q.f2) (v3 := .slice A6 q.f3.length c6) (bb HBW.out BT.out) GTG2.out
        have hBR := blk_farP (p := ⟨g', 4 * j, none⟩) (v0 := .int .i64 q.f0) (v1 := .int .i64 q.f1) (v2 := .int .i64 q.f2) (v3 := .slice A6 q.f3.length c6) (bb HBW.out BR.out) GRG2.out
        have hHB := below_setP (p := ⟨g', 4 * j, none⟩) (v0 := .int .i64 q.f0) (v1 := .int .i64 q.f1) (v2 := .int .i64 q.f2) (v3 := .slice A6 q.f3.length c6) (below_step HB.out HBW.out) GG2.out
        have hHF := F_farP (v0 := .int .i64 q.f0) (v1 := .int .i64 q.f1) (v2 := .int .i64 q.f2) (v3 := .slice A6 q.f3.length c6) hF7 (p := ⟨g', 4 * j, none⟩) APG.out
        have hOV := OwnK.farP (v0 := .int .i64 q.f0) (v1 := .int .i64 q.f1) (v2 := .int .i64 q.f2) (v3 := .slice A6 q.f3.length c6) HOV.out (p := ⟨g', 4 * j, none⟩) (.inl HLO.out)
        generalize hw17 : (((w78.setCell ⟨g', 4 * j, none⟩ (.int .i64 q.f0)).setCell ⟨g', 4 * j + 1, none⟩ (.int .i64 q.f1)).setCell ⟨g', 4 * j + 2, none⟩ (.int .i64 q.f2)).setCell ⟨g', 4 * j + 3, none⟩ (.slice A6 q.f3.length c6) = w17 at hBT hBR hHO hHB hHF hOV hcs hsz ⊢
        clear hw17 z0 z1 z2 z3 f0 f1 f2 f3 z3' x0 x1 x2 x3 x0' x1' x2' x3' xf0 xf1 xf2 xf3 xg0 xg1 xg2 xg3 HOD HF6 HOV HBW BT BR HO HB hF7
        have BT := Aside0.mk hBT
        have BR := Aside0.mk hBR
        have HO := Aside0.mk hHO
        have HB := Aside0.mk hHB
        have HF6 := Aside0.mk hHF
        have HOV := Aside0.mk hOV
        have HCS := Aside0.mk hcs
        have HSZ := Aside0.mk hsz
        clear hBT hBR hHO hHB hHF hOV hcs hsz
        obtain ⟨z0, z1, z2, z3, f0, f1, f2, f3⟩ := cz4 BT.out
        obtain ⟨r0, r1, r2, r3, rf0, rf1, rf2, rf3⟩ := cz4 BR.out
        have nTR := NTR.out
        have nRT := NRT.out
        by_cases h1 : zs.length = 1
        · have c3 : ((zs.length : Int) == 1) = true := beq_iff_eq.mpr (by omega)
          have hj0 : j = 0 := by omega
          have p24 : ((0 : Int) < (zs.length : Int)) = True := eq_true (by omega)
          have hKR := KR.out
          rw [set_one zs j q h1 hj0] at hKR
          have HKR := Aside0.mk (show killR (k + 1) t w0 h0 pane = ⟨q.f0, q.f1, t.f2, q.f3⟩ from hKR)
          have hcs := HCS.out
          rw [hj0] at hcs
          simp only [Nat.mul_zero, Nat.zero_add] at hcs
          obtain ⟨x0, x1, x2, x3⟩ := hcs
          have ADE3 := AD2.eq
          subst ADE3
          clear hKR h1 hj0
          go_upto_region 19 with (first | ((with_reducible refine gate_dst (N := 17) rfl ?_); (try (refine gate_guard (by rfl) ?_; dsimp only)); refine box_event ?hg (N := 17) ?hd (cs := #[.int .i64 0, .int .i64 0, .int .i64 0, .slice none 0 0]) (t := 31) ?hr ?_; (case hd => rfl); (case hg => rfl); (case hr => first | (go_simp; done) | (go_simp; rfl)); intro gO hg wO hbox hb; have BO := Aside0.mk hbox; have GO := Aside0.mk (by rw [hg]; exact below_size HB.out : w.heap.size ≤ gO); have GOE := Aside0.mk (by rw [hg]; exact Nat.le_refl _ : w17.heap.size ≤ gO); have GOW := Aside0.mk (by rw [hg]; exact HSZ.out : w78.heap.size ≤ gO); have NTO := Aside0.mk (by rw [hg]; exact lt1 BT.out : gT ≠ gO); have NOT := Aside0.mk (by rw [hg]; exact gt1 BT.out : gO ≠ gT); have NRO := Aside0.mk (by rw [hg]; exact lt1 BR.out : gR ≠ gO); have NOR := Aside0.mk (by rw [hg]; exact gt1 BR.out : gO ≠ gR); replace HF6 := Aside0.mk (Kd.F_below (F_cut HF6.out) hb); replace HOV := Aside0.mk (HOV.out.below hb); replace BT := Aside0.mk (bb hb BT.out); replace BR := Aside0.mk (bb hb BR.out); replace HB := Aside0.mk (below_step HB.out hb); replace x0 := (hb.cell (World.block_lt_of_cell? _ _ x0)).trans x0; replace x1 := (hb.cell (World.block_lt_of_cell? _ _ x1)).trans x1; replace x2 := (hb.cell (World.block_lt_of_cell? _ _ x2)).trans x2; replace x3 := (hb.cell (World.block_lt_of_cell? _ _ x3)).trans x3; clear hb hbox hg z0 z1 z2 z3 f0 f1 f2 f3 r0 r1 r2 r3 rf0 rf1 rf2 rf3; obtain ⟨z0, z1, z2, z3, f0, f1, f2, f3⟩ := cz4 BT.out; obtain ⟨o0, o1, o2, o3, of0, of1, of2, of3⟩ := cz4 BO.out; have nTO := NTO.out; have nOT := NOT.out))
          have hBT := far4 (v0 := .int .i64 q.f0) (v1 := .int .i64 q.f1) (v2 := .int .i64 q.f2) (v3 := .slice A6 q.f3.length c6) NTO.out BT.out
          have hBR := far4 (v0 := .int .i64 q.f0) (v1 := .int .i64 q.f1) (v2 := .int .i64 q.f2) (v3 := .slice A6 q.f3.length c6) NRO.out BR.out
          have hBO := put4 (v0 := .int .i64 q.f0) (v1 := .int .i64 q.f1) (v2 := .int .i64 q.f2) (v3 := .slice A6 q.f3.length c6) BO.out
          have hHF := F_far4 (v0 := .int .i64 q.f0) (v1 := .int .i64 q.f1) (v2 := .int .i64 q.f2) (v3 := .slice A6 q.f3.length c6) (F_cut HF6.out) (fun k hk => by have := GOE.out; have := hk.2; show k ≠ gO; omega)
          have hOV := (((HOV.out.far (p := ⟨gO, 0, none⟩) (.inr GOW.out) (.int .i64 q.f0)).far (p := ⟨gO, 1, none⟩) (.inr GOW.out) (.int .i64 q.f1)).far (p := ⟨gO, 2, none⟩) (.inr GOW.out) (.int .i64 q.f2)).far (p := ⟨gO, 3, none⟩) (.inr GOW.out) (.slice A6 q.f3.length c6)
          have hHB := below_set (j := 3) (v := .slice A6 q.f3.length c6) (below_set (j := 2) (v := .int .i64 q.f2) (below_set (j := 1) (v := .int .i64 q.f1) (below_set (j := 0) (v := .int .i64 q.f0) HB.out GO.out) GO.out) GO.out) GO.out
          generalize hw18 : ((((wO.setCell ⟨gO, 0, none⟩ (.int .i64 q.f0)).setCell ⟨gO, 1, none⟩ (.int .i64 q.f1)).setCell ⟨gO, 2, none⟩ (.int .i64 q.f2)).setCell ⟨gO, 3, none⟩ (.slice A6 q.f3.length c6)) = w18 at hBT hBR hBO hHF hOV hHB ⊢
          clear hw18 z0 z1 z2 z3 f0 f1 f2 f3 x0 x1 x2 x3 o0 o1 o2 o3 of0 of1 of2 of3 BT BR BO HF6 HOV HB
          have BT := Aside0.mk hBT
          have BR := Aside0.mk hBR
          have BO := Aside0.mk hBO
          have HF6 := Aside0.mk hHF
          have HOV := Aside0.mk hOV
          have HB := Aside0.mk hHB
          clear hBT hBR hBO hHF hOV hHB
          obtain ⟨z0, z1, z2, z3, f0, f1, f2, f3⟩ := cz4 BT.out
          obtain ⟨o0, o1, o2, o3, of0, of1, of2, of3⟩ := cz4 BO.out
          go_upto_region 20 with (fail)
          have hBR := blk_far (p := ⟨gO, 2, none⟩) BR.out NRO.out (.int .i64 t.f2)
          have hBO := blk_put BO.out 2 (.int .i64 t.f2) rfl
          have hHF := Kd.F_far (p := ⟨gO, 2, none⟩) HF6.out (fun k hk => by have := GOE.out; have := hk.2; show k ≠ gO; omega) (.int .i64 t.f2)
          have hOV := HOV.out.far (p := ⟨gO, 2, none⟩) (.inr GOW.out) (.int .i64 t.f2)
          have hHB := below_set (j := 2) (v := .int .i64 t.f2) HB.out GO.out
          generalize hw19 : w18.setCell ⟨gO, 2, none⟩ (.int .i64 t.f2) = w19 at hBR hBO hHF hOV hHB ⊢
          clear hw19 z0 z1 z2 z3 f0 f1 f2 f3 o0 o1 o2 o3 of0 of1 of2 of3 BT BR BO HF6 HOV HB
          have BR := Aside0.mk hBR
          have BO := Aside0.mk hBO
          have HF6 := Aside0.mk hHF
          have HOV := Aside0.mk hOV
          have HB := Aside0.mk hHB
          clear hBR hBO hHF hOV hHB
          obtain ⟨o0, o1, o2, o3, of0, of1, of2, of3⟩ := cz4 BO.out
          obtain ⟨r0, r1, r2, r3, rf0, rf1, rf2, rf3⟩ := cz4 BR.out
          have nRO := NRO.out
          have nOR := NOR.out
          go_wp2_with (first | ((with_reducible refine gate_store (t := 31) (p := 8) rfl ?_); (refine store_event (t := 31) (p := 8) (v := ?volo) (w1 := ((((w19.setCell ⟨gR, 0, none⟩ (.int .i64 q.f0)).setCell ⟨gR, 1, none⟩ (.int .i64 q.f1)).setCell ⟨gR, 2, none⟩ (.int .i64 t.f2)).setCell ⟨gR, 3, none⟩ (.slice A6 q.f3.length c6))) ?hg ?ho ?hn ?hr ?_; (case ho => rfl); (case hg => rfl); (case hn => rfl); (case hr => first | (go_simp; done) | (go_simp; rfl)); intro w9 hw; have N1 : Aside0 (w9.heap[gR]? = some (.cells #[.int .i64 q.f0, .int .i64 q.f1, .int .i64 t.f2, .slice A6 q.f3.length c6] 31 (0, 0))) := ⟨by rw [hw]; exact put4 BR.out⟩; have N2 : Aside0 (Below w.heap.size w w9) := ⟨by rw [hw]; exact below_set (below_set (below_set (below_set HB.out GR.out) GR.out) GR.out) GR.out⟩; have N3 := Aside0.mk (show Kd.F k31 w9 _ A6 q.f3.length q.f3 from by rw [hw]; exact F_far4 HF6.out (fun k hk => by have := GR.out; have := GRL3.out; have := hk.1.1; show k ≠ gR; omega)); have N4 := Aside0.mk (show OwnK w96.heap.size w78.heap.size w9 A6 q.f3.length from by rw [hw]; exact (((HOV.out.far (p := ⟨gR, 0, none⟩) (.inl HLR.out) _).far (p := ⟨gR, 1, none⟩) (.inl HLR.out) _).far (p := ⟨gR, 2, none⟩) (.inl HLR.out) _).far (p := ⟨gR, 3, none⟩) (.inl HLR.out) _); clear r0 r1 r2 r3 rf0 rf1 rf2 rf3; clear hw)))
          obtain ⟨s0, s1, s2, s3, _, _, _, _⟩ := cz4 N1.out
          refine bodyPost_ret (v := .agg #[.int .i64 q.f0, .int .i64 q.f1, .int .i64 t.f2, .slice A6 q.f3.length c6]) (by simp [results, Try.results76, go_sem, s0, s1, s2, s3]) rfl ?_
          rw [HKR.out]
          refine ⟨_, rfl, ⟨A6, c6, rfl, H6.out, Kd.F_mono N3.out (fun k hk => ?_)⟩, fun hp => ?_, N2.out⟩
          · have := GG2.out
            rcases hk.1 with hk | hk
            · exact .inl hk.1
            · exact .inr (by omega)
          · obtain ⟨vb, vcells, e, q1, q2, q3⟩ := N4.out hp
            exact ⟨vb, c6, vcells, by rw [e], by have := HLO.out; have := GG2.out; have q4 : w96.heap.size ≤ vb := q1; omega, q3⟩
        · have c3 : ((zs.length : Int) == 1) = false := beq_eq_false_iff_ne.mpr (by omega)
          have hKR := KR.out
          have hz2 : 2 ≤ zs.length := by omega
          rw [only_many t _ (by rw [List.length_set]; exact hz2)] at hKR
          have hml : (zs.set j q).length = zs.length := List.length_set
          generalize zs.set j q = ys at HO hKR hml
          have HKR := Aside0.mk hKR
          have HML := Aside0.mk hml
          clear hKR hml h1 hz2 KR HOV HF6
          go_wp2_with (first | ((with_reducible refine gate_store (t := 31) (p := 8) rfl ?_); (refine store_event (t := 31) (p := 8) (v := ?vol1) (w1 := ((((w17.setCell ⟨gR, 0, none⟩ (.int .i64 t.f0)).setCell ⟨gR, 1, none⟩ (.int .i64 t.f1)).setCell ⟨gR, 2, none⟩ (.int .i64 t.f2)).setCell ⟨gR, 3, none⟩ (.slice (some ad2) zs.length cap'))) ?hg ?ho ?hn ?hr ?_; (case ho => rfl); (case hg => rfl); (case hn => rfl); (case hr => first | (go_simp; done) | (go_simp; rfl)); intro w9 hw; have N1 : Aside0 (w9.heap[gR]? = some (.cells #[.int .i64 t.f0, .int .i64 t.f1, .int .i64 t.f2, .slice (some ad2) zs.length cap'] 31 (0, 0))) := ⟨by rw [hw]; exact put4 BR.out⟩; have N2 : Aside0 (Below w.heap.size w w9) := ⟨by rw [hw]; exact below_set (below_set (below_set (below_set HB.out GR.out) GR.out) GR.out) GR.out⟩; have N3 := Aside0.mk (show OwnAt w9 (fun k => ok k ∧ k < w.heap.size ∨ g' < k) wR.heap.size g' cap' cells2 ys from by rw [hw]; exact OwnAt.far4 HO.out GRG2.out (fun k hk => by have := GR.out; have := GRL3.out; show k ≠ gR; omega)); clear z0 z1 z2 z3 f0 f1 f2 f3 r0 r1 r2 r3 rf0 rf1 rf2 rf3; clear hw)))
          obtain ⟨s0, s1, s2, s3, _, _, _, _⟩ := cz4 N1.out
          refine bodyPost_ret (v := .agg #[.int .i64 t.f0, .int .i64 t.f1, .int .i64 t.f2, .slice (some ad2) zs.length cap']) (by simp [results, Try.results76, go_sem, s0, s1, s2, s3]) rfl ?_
          rw [HKR.out]
          have hT := N3.out.kids.tree (cap := cap') N3.out.fit t.f0 t.f1 t.f2
          rw [HML.out, ← AD2.eq] at hT
          refine ⟨_, rfl, hT.mono (fun k hk => ?_), fun _ => ⟨g', cap', _, by rw [HML.out, ← AD2.eq], GG2.out, N3.out.kids.blk⟩, N2.out⟩
          have := GG2.out
          rcases hk with (hk | hk) | hk
          · exact .inl hk.1
          · exact .inr (by omega)
          · exact .inr (by omega)
    · have c1 : (t.f3[i].f0 == 0) = false := beq_eq_false_iff_ne.mpr c0
      have c1' : (t.f3[i].f0 != 0) = true := by rw [bne, c1]; rfl
      have SF := Aside0.mk (sized_f2 t.f0 t.f3[i].f0 t.f3[i].f1 t.f3[i].f2 t.f3[i].f3 w0 h0)
      go_upto_region 6 with (first | ((with_reducible refine gate_callee (f := 96) rfl ?_); refine ga (some 40) rfl rfl Try.func96 (by kernel_rfl) rfl #[.int .i64 t.f0, .agg #[.int .i64 t.f3[i].f0, .int .i64 t.f3[i].f1, .int .i64 t.f3[i].f2, .slice xA t.f3[i].f3.length xc], .int .i64 w0, .int .i64 h0] rfl ?_; (with_reducible refine (tree_sized.calls t.f0 t.f3[i].f0 t.f3[i].f1 t.f3[i].f2 _ _ t.f3[i].f3 w0 h0 (kwd t.f0 t.f3[i].f2 w0) (khd t.f0 t.f3[i].f2 h0) _ ?side1 ?side2 SF.out).mono ?_); (case side1 => exact Kd.F_now HXF.out); (case side2 => exact HL3.out); rintro e w96 ⟨rfl, hb⟩; refine ⟨_, rfl, ?_⟩; replace BT := Aside0.mk (bb hb BT.out); replace BR := Aside0.mk (bb hb BR.out); replace BP := Aside0.mk (bb hb BP.out); replace BK := Aside0.mk (bb hb BK.out); replace HO := Aside0.mk (HO.out.below hb); replace HXF := Aside0.mk (Kd.F_below HXF.out hb); replace HB := Aside0.mk (below_step HB.out hb); clear hb z0 z1 z2 z3 f0 f1 f2 f3 y0 y1 y2 y3 e0 e1 e2 e3; obtain ⟨z0, z1, z2, z3, f0, f1, f2, f3⟩ := cz4 BT.out; obtain ⟨y0, y1, y2, y3, e0, e1, e2, e3⟩ := cz4 BK.out; have py0 := (blk_cell BP.out 0).trans (show _ = some (Value.int .i64 pane) from rfl)))
      have HIN := Aside0.mk (of_decide_eq_true ha : pane ∈ psA t.f3[i])
      have hx1 := (kill_mk d k t.f3[i] (kwd t.f0 t.f3[i].f2 w0) (khd t.f0 t.f3[i].f2 h0) pane YM.out.2.2.2 (Nat.le_of_succ_le_succ HBD.out.2.2) (Nat.le_of_succ_le HBD.out.2.1) (HND.out _ (List.getElem_mem hii)) HIN.out c0 KBX.out.1 KBX.out.2.1 KBX.out.2.2.1 KBX.out.2.2.2).1
      have HCALL := Aside0.mk (IH.out t.f3[i] _ _ YM.out.2.2.2 KBX.out.1 KBX.out.2.1 KBX.out.2.2.1 KBX.out.2.2.2 (Nat.le_of_succ_le HBD.out.2.1) (HND.out _ (List.getElem_mem hii)) c0 k (Nat.le_of_succ_le_succ HBD.out.2.2) pane HIN.out w96 _ xA xc HXF.out HL3.out)
      have hKR := KR.out
      rw [if_neg c0] at hKR
      generalize killR k t.f3[i] (kwd t.f0 t.f3[i].f2 w0) (khd t.f0 t.f3[i].f2 h0) pane = q at HCALL hx1 hKR
      have QK : Aside0 (q.f0 = t.f0 → 2 ≤ q.f3.length ∧ q.f3.length ≤ 41) := ⟨fun e => by
        have hd9 := mk_kids hx1 KBX.out.2.1 KBX.out.2.2.2
        obtain ⟨d', hd'⟩ := mk_head hx1
        rw [hd'] at hx1
        have := (hx1.kids (by rw [e]; exact K0.out)).2.2.1
        exact ⟨this, hd9⟩⟩
      replace KR := Aside0.mk hKR
      have nTA2 : Aside0 (gT ≠ g) := ⟨nTA⟩
      clear hx1 hKR c0 HIN
      go_upto_region 7 with (first | (go_at_call 76; refine HCALL.out.mono ?_; rintro e w76 ⟨v, rfl, ⟨A5, c5, rfl, h5, hF5⟩, hOV, hb⟩; have HLO := Aside0.mk (blk_lt HO.out.kids.blk); have HLT := Aside0.mk (blk_lt BT.out); have HF5 := Aside0.mk (Kd.F_mono (F_cut hF5) (ok' := fun k => ok k ∧ k < w.heap.size ∨ g < k ∧ k < w76.heap.size) (fun k hk => hk.1.elim (fun h => .inl h) (fun h => .inr ⟨Nat.lt_of_lt_of_le HLO.out h, hk.2⟩))); have H5 := Aside0.mk h5; have HOV := Aside0.mk (OwnK.of hOV); replace BT := Aside0.mk (bb hb BT.out); replace BR := Aside0.mk (bb hb BR.out); replace BP := Aside0.mk (bb hb BP.out); replace BK := Aside0.mk (bb hb BK.out); replace HO := Aside0.mk (HO.out.below hb); replace HB := Aside0.mk (below_step HB.out hb); clear hb hF5 h5 hOV HXF z0 z1 z2 z3 f0 f1 f2 f3 y0 y1 y2 y3 e0 e1 e2 e3; obtain ⟨z0, z1, z2, z3, f0, f1, f2, f3⟩ := cz4 BT.out; obtain ⟨y0, y1, y2, y3, e0, e1, e2, e3⟩ := cz4 BK.out) | ((with_reducible refine gate_dst (N := 13) rfl ?_); (try (refine gate_guard (by rfl) ?_; dsimp only)); refine box_event ?hg (N := 13) ?hd (cs := #[.int .i64 0, .int .i64 0, .int .i64 0, .slice none 0 0]) (t := 31) ?hr ?_; (case hd => rfl); (case hg => rfl); (case hr => first | (go_simp; done) | (go_simp; rfl)); intro gX hg wX hbox hb; have BX := Aside0.mk hbox; have GX := Aside0.mk (by rw [hg]; exact below_size HB.out : w.heap.size ≤ gX); have GXE := Aside0.mk (by rw [hg]; exact Nat.le_refl _ : w76.heap.size ≤ gX); have NTX := Aside0.mk (by rw [hg]; exact lt1 BT.out : gT ≠ gX); have NXT := Aside0.mk (by rw [hg]; exact gt1 BT.out : gX ≠ gT); have NRX := Aside0.mk (by rw [hg]; exact lt1 BR.out : gR ≠ gX); have NKX := Aside0.mk (by rw [hg]; exact lt1 BK.out : gK ≠ gX); have NXK := Aside0.mk (by rw [hg]; exact gt1 BK.out : gX ≠ gK); have NGX := Aside0.mk (by rw [hg]; exact lt1 HO.out.kids.blk : g ≠ gX); replace BT := Aside0.mk (bb hb BT.out); replace BR := Aside0.mk (bb hb BR.out); replace BP := Aside0.mk (bb hb BP.out); replace BK := Aside0.mk (bb hb BK.out); replace HO := Aside0.mk (HO.out.below hb); replace HB := Aside0.mk (below_step HB.out hb); replace HF5 := Aside0.mk (Kd.F_below HF5.out hb); replace HOV := Aside0.mk (HOV.out.below hb); clear hb hbox hg z0 z1 z2 z3 f0 f1 f2 f3 y0 y1 y2 y3 e0 e1 e2 e3; obtain ⟨z0, z1, z2, z3, f0, f1, f2, f3⟩ := cz4 BT.out; obtain ⟨y0, y1, y2, y3, e0, e1, e2, e3⟩ := cz4 BK.out; obtain ⟨u0, u1, u2, u3, v0, v1, v2, v3⟩ := cz4 BX.out; have nTX := NTX.out; have nXT := NXT.out; have nKX := NKX.out; have nXK := NXK.out))
      have hBT := far4 (v0 := .int .i64 q.f0) (v1 := .int .i64 q.f1) (v2 := .int .i64 q.f2) (v3 := .slice A5 q.f3.length c5) NTX.out BT.out
      have hBR := far4 (v0 := .int .i64 q.f0) (v1 := .int .i64 q.f1) (v2 := .int .i64 q.f2) (v3 := .slice A5 q.f3.length c5) NRX.out BR.out
      have hBK := far4 (v0 := .int .i64 q.f0) (v1 := .int .i64 q.f1) (v2 := .int .i64 q.f2) (v3 := .slice A5 q.f3.length c5) NKX.out BK.out
      have hBX := put4 (v0 := .int .i64 q.f0) (v1 := .int .i64 q.f1) (v2 := .int .i64 q.f2) (v3 := .slice A5 q.f3.length c5) BX.out
      have hHO := OwnAt.far4 (v0 := .int .i64 q.f0) (v1 := .int .i64 q.f1) (v2 := .int .i64 q.f2) (v3 := .slice A5 q.f3.length c5) HO.out (Ne.symm NGX.out) (fun k hk => by have := GX.out; have := hk.2; show k ≠ gX; omega)
      have hHF := F_far4 (v0 := .int .i64 q.f0) (v1 := .int .i64 q.f1) (v2 := .int .i64 q.f2) (v3 := .slice A5 q.f3.length c5) HF5.out (fun k hk => by have := GX.out; have := GXE.out; show k ≠ gX; omega)
      have hOV := (((HOV.out.far (p := ⟨gX, 0, none⟩) (.inr GXE.out) (.int .i64 q.f0)).far (p := ⟨gX, 1, none⟩) (.inr GXE.out) (.int .i64 q.f1)).far (p := ⟨gX, 2, none⟩) (.inr GXE.out) (.int .i64 q.f2)).far (p := ⟨gX, 3, none⟩) (.inr GXE.out) (.slice A5 q.f3.length c5)
      have hHB := below_set (j := 3) (v := .slice A5 q.f3.length c5) (below_set (j := 2) (v := .int .i64 q.f2) (below_set (j := 1) (v := .int .i64 q.f1) (below_set (j := 0) (v := .int .i64 q.f0) HB.out GX.out) GX.out) GX.out) GX.out
      generalize hw17 : ((((wX.setCell ⟨gX, 0, none⟩ (.int .i64 q.f0)).setCell ⟨gX, 1, none⟩ (.int .i64 q.f1)).setCell ⟨gX, 2, none⟩ (.int .i64 q.f2)).setCell ⟨gX, 3, none⟩ (.slice A5 q.f3.length c5)) = w17 at hBT hBR hBK hBX hHO hHF hOV hHB ⊢
      clear hw17 z0 z1 z2 z3 f0 f1 f2 f3 y0 y1 y2 y3 e0 e1 e2 e3 u0 u1 u2 u3 v0 v1 v2 v3 BT BR BK BX BP HO HF5 HOV HB
      have BT := Aside0.mk hBT
      have BR := Aside0.mk hBR
      have BK := Aside0.mk hBK
      have BX := Aside0.mk hBX
      have HO := Aside0.mk hHO
      have HF5 := Aside0.mk hHF
      have HOV := Aside0.mk hOV
      have HB := Aside0.mk hHB
      clear hBT hBR hBK hBX hHO hHF hOV hHB
      obtain ⟨z0, z1, z2, z3, f0, f1, f2, f3⟩ := cz4 BT.out
      obtain ⟨y0, y1, y2, y3, e0, e1, e2, e3⟩ := cz4 BK.out
      obtain ⟨u0, u1, u2, u3, v0, v1, v2, v3⟩ := cz4 BX.out
      go_upto_region 8 with (fail)
      have hBT := blk_far (p := ⟨gX, 2, none⟩) BT.out NTX.out (.int .i64 t.f3[i].f2)
      have hBR := blk_far (p := ⟨gX, 2, none⟩) BR.out NRX.out (.int .i64 t.f3[i].f2)
      have hBX := blk_put BX.out 2 (.int .i64 t.f3[i].f2) rfl
      have hHO := HO.out.far (p := ⟨gX, 2, none⟩) (Ne.symm NGX.out) (fun k hk => by have := GX.out; have := hk.2; show k ≠ gX; omega) (.int .i64 t.f3[i].f2)
      have hHF := Kd.F_far (p := ⟨gX, 2, none⟩) HF5.out (fun k hk => by have := GX.out; have := GXE.out; show k ≠ gX; omega) (.int .i64 t.f3[i].f2)
      have hOV := HOV.out.far (p := ⟨gX, 2, none⟩) (.inr GXE.out) (.int .i64 t.f3[i].f2)
      have hHB := below_set (j := 2) (v := .int .i64 t.f3[i].f2) HB.out GX.out
      generalize hw18 : w17.setCell ⟨gX, 2, none⟩ (.int .i64 t.f3[i].f2) = w18 at hBT hBR hBX hHO hHF hOV hHB ⊢
      clear hw18 z0 z1 z2 z3 f0 f1 f2 f3 y0 y1 y2 y3 e0 e1 e2 e3 u0 u1 u2 u3 v0 v1 v2 v3 BT BR BK BX HO HF5 HOV HB
      have BT := Aside0.mk hBT
      have BR := Aside0.mk hBR
      have BX := Aside0.mk hBX
      have HO := Aside0.mk hHO
      have HF5 := Aside0.mk hHF
      have HOV := Aside0.mk hOV
      have HB := Aside0.mk hHB
      clear hBT hBR hBX hHO hHF hOV hHB
      obtain ⟨z0, z1, z2, z3, f0, f1, f2, f3⟩ := cz4 BT.out
      obtain ⟨u0, u1, u2, u3, v0, v1, v2, v3⟩ := cz4 BX.out
      have AT := AD.at i
      have xf0 := HO.out.kids.frozen (4 * i)
      have xf1 := HO.out.kids.frozen (4 * i + 1)
      have xf2 := HO.out.kids.frozen (4 * i + 2)
      have xf3 := HO.out.kids.frozen (4 * i + 3)
      obtain ⟨x0, x1, x2, _, _, x3, _, _⟩ := HO.out.kids.cell (j := i) (List.getElem?_eq_getElem hii)
      go_upto_region 9 with (fail)
      clear AT
      have APG : Aside0 (∀ k, (ok k ∧ k < w.heap.size ∨ g < k ∧ k < w76.heap.size) → k ≠ g) := ⟨fun k hk => by have := GG.out; have := WLE.out; omega⟩
      have hBT := blk_farP (p := ⟨g, 4 * i, none⟩) (v0 := .int .i64 q.f0) (v1 := .int .i64 q.f1) (v2 := .int .i64 t.f3[i].f2) (v3 := .slice A5 q.f3.length c5) BT.out nTA
      have hBR := blk_farP (p := ⟨g, 4 * i, none⟩) (v0 := .int .i64 q.f0) (v1 := .int .i64 q.f1) (v2 := .int .i64 t.f3[i].f2) (v3 := .slice A5 q.f3.length c5) BR.out nRA
      have hBX := blk_farP (p := ⟨g, 4 * i, none⟩) (v0 := .int .i64 q.f0) (v1 := .int .i64 q.f1) (v2 := .int .i64 t.f3[i].f2) (v3 := .slice A5 q.f3.length c5) BX.out (Ne.symm NGX.out)
      obtain ⟨cells2, hHO⟩ := (HO.out.mono (ok' := fun k => ok k ∧ k < w.heap.size ∨ g < k ∧ k < w76.heap.size) (fun k hk => .inl hk) APG.out).putL (j := i) hii ⟨q.f0, q.f1, t.f3[i].f2, q.f3⟩ H5.out HF5.out
      have hHF := F_farP (v0 := .int .i64 q.f0) (v1 := .int .i64 q.f1) (v2 := .int .i64 t.f3[i].f2) (v3 := .slice A5 q.f3.length c5) HF5.out (p := ⟨g, 4 * i, none⟩) APG.out
      have hOV := OwnK.farP (v0 := .int .i64 q.f0) (v1 := .int .i64 q.f1) (v2 := .int .i64 t.f3[i].f2) (v3 := .slice A5 q.f3.length c5) HOV.out (p := ⟨g, 4 * i, none⟩) (.inl HLO.out)
      have hHB := below_setP (p := ⟨g, 4 * i, none⟩) (v0 := .int .i64 q.f0) (v1 := .int .i64 q.f1) (v2 := .int .i64 t.f3[i].f2) (v3 := .slice A5 q.f3.length c5) HB.out (by show w.heap.size ≤ g; have := GG.out; have := WLE.out; omega)
      generalize hw19 : (((w18.setCell ⟨g, 4 * i, none⟩ (.int .i64 q.f0)).setCell ⟨g, 4 * i + 1, none⟩ (.int .i64 q.f1)).setCell ⟨g, 4 * i + 2, none⟩ (.int .i64 t.f3[i].f2)).setCell ⟨g, 4 * i + 3, none⟩ (.slice A5 q.f3.length c5) = w19 at hBT hBR hBX hHO hHF hOV hHB ⊢
      clear hw19 z0 z1 z2 z3 f0 f1 f2 f3 u0 u1 u2 u3 v0 v1 v2 v3 x0 x1 x2 x3 xf0 xf1 xf2 xf3 BT BR BX HO HF5 HOV HB
      have BT := Aside0.mk hBT
      have BR := Aside0.mk hBR
      have BX := Aside0.mk hBX
      have HO := Aside0.mk hHO
      have HF5 := Aside0.mk hHF
      have HOV := Aside0.mk hOV
      have HB := Aside0.mk hHB
      clear hBT hBR hBX hHO hHF hOV hHB
      obtain ⟨z0, z1, z2, z3, f0, f1, f2, f3⟩ := cz4 BT.out
      obtain ⟨u0, u1, u2, u3, v0, v1, v2, v3⟩ := cz4 BX.out
      have hml : (t.f3.set i ⟨q.f0, q.f1, t.f3[i].f2, q.f3⟩).length = t.f3.length := List.length_set
      by_cases cq : q.f0 = t.f0
      · have c2 : (q.f0 == t.f0) = true := beq_iff_eq.mpr cq
        have hKR := KR.out
        rw [if_pos cq, List.append_assoc] at hKR
        have hq := QK.out cq
        obtain ⟨vb, vcells, rfl, hv1, hv2, hv3⟩ := HOV.out (by omega)
        obtain ⟨vrows, hvt, hVR⟩ := F_row (F_cut HF5.out) (by omega) hv3
        have hrep := replace_rows (cv := c5) HO.out.cut hv3 hvt hVR (by have := blk_lt HO.out.kids.blk; have := GG.out; omega) (by rw [hml]; have := LEN.out; omega) (by omega) hq.1 (fun k hk => ⟨APG.out k hk.1, hk.2⟩) (by have := HLO.out; omega) i (by rw [hml]; exact hii)
        rw [hml, show ((i + 1 : Nat) : Int) = (i : Int) + 1 by omega, take_set t.f3 i, drop_set t.f3 i] at hrep
        have HREP := Aside0.mk hrep
        have hzl : (t.f3.take i ++ (q.f3 ++ t.f3.drop (i + 1))).length = i + q.f3.length + (t.f3.length - (i + 1)) := put_len t.f3 q.f3 i (i + 1) (by omega) (by omega)
        generalize t.f3.take i ++ (q.f3 ++ t.f3.drop (i + 1)) = zs at HREP hKR hzl
        have HKR := Aside0.mk hKR
        have ADE := AD.eq
        subst ADE
        have w5' : wrap64 ((i : Int) + 1) = (i : Int) + 1 := by have := LEN.out; unfold wrap64; omega
        clear hrep hKR hzl hq hv1 hv2 hv3 hvt hVR cq hml KR HOV HF5
        go_upto_region 11 with (first | (go_at_call 112; refine HREP.out.mono ?_; rintro e w12 ⟨g', cap', cells', rfl, hO2, hgg, hOR, hbl⟩; have HO2 := Aside0.mk hO2; have HGG := Aside0.mk hgg; have GTL := Aside0.mk (blk_lt BT.out); have GRL2 := Aside0.mk (blk_lt BR.out); have GGL := Aside0.mk (blk_lt HO.out.kids.blk); replace BT := Aside0.mk (only_blkK hOR nTA2.out BT.out); replace BR := Aside0.mk (only_blkK hOR GRG.out BR.out); replace HB := Aside0.mk (HB.out.trans (hbl.mono WLE.out)); clear hO2 hgg hOR hbl z0 z1 z2 z3 f0 f1 f2 f3 u0 u1 u2 u3 v0 v1 v2 v3; obtain ⟨z0, z1, z2, z3, f0, f1, f2, f3⟩ := cz4 BT.out))
        have GTG2 : Aside0 (gT ≠ g') := ⟨by have := HGG.out; have := GTL.out; have := nTA; omega⟩
        have GRG2 : Aside0 (gR ≠ g') := ⟨by have := HGG.out; have := GRL2.out; have := nRA; omega⟩
        have GG2 : Aside0 (w.heap.size ≤ g') := ⟨by have := HGG.out; have := GG.out; have := WLE.out; have := GGL.out; omega⟩
        have hBT := blk_put BT.out 3 (.slice (some ⟨g', 0, none⟩) zs.length cap') rfl
        have hBR := blk_far (p := ⟨gT, 3, none⟩) BR.out NRT.out (.slice (some ⟨g', 0, none⟩) zs.length cap')
        have GTL9 : Aside0 (gT < g) := ⟨by have := NTG9.out; omega⟩
        have hHO := HO2.out.far (p := ⟨gT, 3, none⟩) GTG2.out (fun k hk => by have := GT.out; have := GTL9.out; show k ≠ gT; omega) (.slice (some ⟨g', 0, none⟩) zs.length cap')
        have hHB := below_set (j := 3) (v := .slice (some ⟨g', 0, none⟩) zs.length cap') HB.out GT.out
        generalize hw13 : w12.setCell ⟨gT, 3, none⟩ (.slice (some ⟨g', 0, none⟩) zs.length cap') = w13 at hBT hBR hHO hHB ⊢
        clear hw13 z0 z1 z2 z3 f0 f1 f2 f3 BT BR HO HO2 HB
        have BT := Aside0.mk hBT
        have BR := Aside0.mk hBR
        have HO := Aside0.mk hHO
        have HB := Aside0.mk hHB
        clear hBT hBR hHO hHB
        obtain ⟨z0, z1, z2, z3, f0, f1, f2, f3⟩ := cz4 BT.out
        obtain ⟨r0, r1, r2, r3, rf0, rf1, rf2, rf3⟩ := cz4 BR.out
        have nTR := NTR.out
        have nRT := NRT.out
        go_wp2_with (first | ((with_reducible refine gate_store (t := 31) (p := 8) rfl ?_); (refine store_event (t := 31) (p := 8) (v := ?von1) (w1 := ((((w13.setCell ⟨gR, 0, none⟩ (.int .i64 t.f0)).setCell ⟨gR, 1, none⟩ (.int .i64 t.f1)).setCell ⟨gR, 2, none⟩ (.int .i64 t.f2)).setCell ⟨gR, 3, none⟩ (.slice (some ⟨g', 0, none⟩) zs.length cap'))) ?hg ?ho ?hn ?hr ?_; (case ho => rfl); (case hg => rfl); (case hn => rfl); (case hr => first | (go_simp; done) | (go_simp; rfl)); intro w9 hw; have N1 : Aside0 (w9.heap[gR]? = some (.cells #[.int .i64 t.f0, .int .i64 t.f1, .int .i64 t.f2, .slice (some ⟨g', 0, none⟩) zs.length cap'] 31 (0, 0))) := ⟨by rw [hw]; exact put4 BR.out⟩; have N2 : Aside0 (Below w.heap.size w w9) := ⟨by rw [hw]; exact below_set (below_set (below_set (below_set HB.out GR.out) GR.out) GR.out) GR.out⟩; have N3 := Aside0.mk (show OwnAt w9 (fun k => (ok k ∧ k < w.heap.size ∨ g < k ∧ k < w76.heap.size) ∧ k < w19.heap.size) wR.heap.size g' cap' cells' zs from by rw [hw]; exact OwnAt.far4 HO.out GRG2.out (fun k hk => by have := GR.out; have := GRL.out; show k ≠ gR; omega)); clear z0 z1 z2 z3 f0 f1 f2 f3 r0 r1 r2 r3 rf0 rf1 rf2 rf3; clear hw)))
        obtain ⟨s0, s1, s2, s3, _, _, _, _⟩ := cz4 N1.out
        refine bodyPost_ret (v := .agg #[.int .i64 t.f0, .int .i64 t.f1, .int .i64 t.f2, .slice (some ⟨g', 0, none⟩) zs.length cap']) (by simp [results, Try.results76, go_sem, s0, s1, s2, s3]) rfl ?_
        rw [HKR.out]
        refine ⟨_, rfl, (N3.out.kids.tree (cap := cap') N3.out.fit t.f0 t.f1 t.f2).mono (fun k hk => ?_), fun _ => ⟨g', cap', _, rfl, GG2.out, N3.out.kids.blk⟩, N2.out⟩
        have := GG2.out
        have := GG.out
        have := WLE.out
        rcases hk with (⟨hk | hk, _⟩) | hk
        · exact .inl hk.1
        · exact .inr (by omega)
        · exact .inr (by omega)
      · have c2 : (q.f0 == t.f0) = false := beq_eq_false_iff_ne.mpr cq
        have hKR := KR.out
        rw [if_neg cq] at hKR
        have HKR := Aside0.mk (show killR (k + 1) t w0 h0 pane = ⟨t.f0, t.f1, t.f2, t.f3.set i ⟨q.f0, q.f1, t.f3[i].f2, q.f3⟩⟩ from hKR)
        generalize t.f3.set i ⟨q.f0, q.f1, t.f3[i].f2, q.f3⟩ = zs at HO HKR hml
        have HML := Aside0.mk hml
        clear hKR cq KR HOV HF5 hml
        obtain ⟨r0, r1, r2, r3, rf0, rf1, rf2, rf3⟩ := cz4 BR.out
        have nTR := NTR.out
        have nRT := NRT.out
        go_wp2_with (first | ((with_reducible refine gate_store (t := 31) (p := 8) rfl ?_); (refine store_event (t := 31) (p := 8) (v := ?von2) (w1 := ((((w19.setCell ⟨gR, 0, none⟩ (.int .i64 t.f0)).setCell ⟨gR, 1, none⟩ (.int .i64 t.f1)).setCell ⟨gR, 2, none⟩ (.int .i64 t.f2)).setCell ⟨gR, 3, none⟩ (.slice (some ad) t.f3.length cap))) ?hg ?ho ?hn ?hr ?_; (case ho => rfl); (case hg => rfl); (case hn => rfl); (case hr => first | (go_simp; done) | (go_simp; rfl)); intro w9 hw; have N1 : Aside0 (w9.heap[gR]? = some (.cells #[.int .i64 t.f0, .int .i64 t.f1, .int .i64 t.f2, .slice (some ad) t.f3.length cap] 31 (0, 0))) := ⟨by rw [hw]; exact put4 BR.out⟩; have N2 : Aside0 (Below w.heap.size w w9) := ⟨by rw [hw]; exact below_set (below_set (below_set (below_set HB.out GR.out) GR.out) GR.out) GR.out⟩; have N3 := Aside0.mk (show OwnAt w9 (fun k => ok k ∧ k < w.heap.size ∨ g < k ∧ k < w76.heap.size) wR.heap.size g cap cells2 zs from by rw [hw]; exact OwnAt.far4 HO.out GRG.out (fun k hk => by have := GR.out; have := GRL.out; show k ≠ gR; omega)); clear z0 z1 z2 z3 f0 f1 f2 f3 r0 r1 r2 r3 rf0 rf1 rf2 rf3; clear hw)))
        obtain ⟨s0, s1, s2, s3, _, _, _, _⟩ := cz4 N1.out
        refine bodyPost_ret (v := .agg #[.int .i64 t.f0, .int .i64 t.f1, .int .i64 t.f2, .slice (some ad) t.f3.length cap]) (by simp [results, Try.results76, go_sem, s0, s1, s2, s3]) rfl ?_
        rw [HKR.out]
        have hT := N3.out.kids.tree (cap := cap) N3.out.fit t.f0 t.f1 t.f2
        rw [HML.out, ← AD.eq] at hT
        refine ⟨_, rfl, hT.mono (fun k hk => ?_), fun _ => ⟨g, cap, _, by rw [HML.out, ← AD.eq], by have := GG.out; have := WLE.out; omega, N3.out.kids.blk⟩, N2.out⟩
        have := GG.out
        have := WLE.out
        rcases hk with (hk | hk) | hk
        · exact .inl hk.1
        · exact .inr (by omega)
        · exact .inr (by omega)
end Go.Proofs.Ytplngfammfdemaa
