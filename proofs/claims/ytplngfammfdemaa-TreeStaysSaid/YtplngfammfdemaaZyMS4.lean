-- Copies of the texts YtplngfammfdemaaUSplit, YtplngfammfdemaaMS4 with what this claim does not reach left out (prune.py, a program of this project).
import Derived.Test.YtplngfammfdemaaZyUSplitL
import Derived.Test.YtplngfammfdemaaZyURepG
import Derived.Test.YtplngfammfdemaaZyMS2
import Derived.Test.YtplngfammfdemaaZyMS1
import Derived.Test.YtplngfammfdemaaZyGIdx
section
namespace Go.Proofs.Ytplngfammfdemaa
open Go.RowKit Go.Proofs.YtplngfammfdemaaW.PrintWords Go.Proofs.YtplngfammfdemaaW.PrintLast Go.Proofs.YtplngfammfdemaaW.PrintMore Q
set_option linter.unusedVariables false
set_option linter.unusedSimpArgs false
section
variable {w w1 : World} {nb : Nat}
theorem only_blkS (h : OnlyRow w w1 nb) {b : Nat} (hb : b ≠ nb) {o : Obj} (ho : w.heap[b]? = some o) : w1.heap[b]? = some o :=
  (h.2 b (blk_lt ho) hb).trans ho
end
/-- Which kid is split, and what becomes of it. -/
theorem splitL_kid (f : S31 → S31) (tk p kind fresh n : Int) (xs : List S31) (i : Nat) (hi : i < xs.length) (hA : ∀ y ∈ xs.take i, hasA p y = false) (hx : hasA p xs[i] = true) :
    splitL f tk p kind fresh n xs = if xs[i].f0 = 0 ∧ tk = kind then xs.take i ++ (withSize xs[i] (n - 1 - (n - 1) / 2) :: young fresh n :: xs.drop (i + 1)) else xs.take i ++ (f xs[i] :: xs.drop (i + 1)) := by
  have e : xs = xs.take i ++ xs[i] :: xs.drop (i + 1) := by rw [← drop_one xs i hi, List.take_append_drop]
  have h := splitL_at f tk p kind fresh n (xs.take i) xs[i] (xs.drop (i + 1)) hA hx
  rw [← e] at h
  rw [h]; split <;> rfl
theorem set_split (xs : List S31) (i : Nat) (hi : i < xs.length) (y : S31) : xs.take i ++ (y :: xs.drop (i + 1)) = xs.set i y := by
  have e : xs = xs.take i ++ xs[i] :: xs.drop (i + 1) := by rw [← drop_one xs i hi, List.take_append_drop]
  have h := put_at (xs.take i) (xs.drop (i + 1)) xs[i] y i (by rw [List.length_take]; omega)
  rw [← e] at h
  exact h.symm
theorem ins_set (xs : List S31) (i : Nat) (hi : i < xs.length) (x y : S31) : (xs.set i x).take (i + 1) ++ y :: (xs.set i x).drop (i + 1) = xs.take i ++ (x :: y :: xs.drop (i + 1)) := by
  rw [← set_split xs i hi x]
  have hl : (xs.take i ++ [x]).length = i + 1 := by rw [List.length_append, List.length_take]; simp; omega
  have e : xs.take i ++ x :: xs.drop (i + 1) = (xs.take i ++ [x]) ++ xs.drop (i + 1) := by simp
  rw [e, List.take_left' hl, List.drop_left' hl]
  simp
set_option maxHeartbeats 16000000 in
set_option maxRecDepth 100000 in
theorem split_calls : ∀ (d : Nat) (t : S31) (w0 h0 : Int), Mk d t w0 h0 → 1 ≤ w0 → w0 ≤ 80 → 1 ≤ h0 → h0 ≤ 80 → d ≤ 20 → ∀ (k : Nat), d ≤ k → ∀ (pane kind fresh n : Int), pane ∈ psA t → 3 ≤ n → n ≤ 80 →
    ∀ (w : World) (ok : Nat → Prop) (A : Option Addr) (c : Nat), Kd.F k31 w ok A t.f3.length t.f3 → t.f3.length ≤ c →
    Calls Try.prog 86 #[.agg #[.int .i64 t.f0, .int .i64 t.f1, .int .i64 t.f2, .slice A t.f3.length c], .int .i64 pane, .int .i64 kind, .int .i64 fresh, .int .i64 n] w fun e w' => TreeOut w w' ok e (splitR k t pane kind fresh n) := by
  intro d
  induction d with
  | zero => intro t w0 h0 hm; exact hm.elim
  | succ d ih =>
    intro t w0 h0 hm w1 w8 h1 h8 hd k hk pane kind fresh n hpa hn3 hn8 w ok A c hF hc
    obtain ⟨k, rfl⟩ : ∃ m, k = m + 1 := ⟨k - 1, by omega⟩
    by_cases k0 : t.f0 = 0
    · have e : splitR (k + 1) t pane kind fresh n = ⟨kind, 0, t.f2, [⟨0, pane, n - 1 - (n - 1) / 2, []⟩, ⟨0, fresh, (n - 1) / 2, []⟩]⟩ := by rw [splitR, if_pos k0]; rfl
      rw [e]
      exact split_leaf_g w t k0 A c ok pane kind fresh n hn3 hn8
    · have hu31 := Try.underlying31
      have b0 : (t.f0 == 0) = false := beq_eq_false_iff_ne.mpr k0
      have IH := Aside0.mk ih
      have HBD := Aside0.mk (And.intro (And.intro w1 (And.intro w8 (And.intro h1 h8))) (And.intro hd (And.intro hk (And.intro hn3 hn8))))
      have HKID := Aside0.mk (kid_of hm hd k0 hpa)
      have KIDS := Aside0.mk (hm.kids k0)
      have hlen := mk_kids hm w8 h8
      have HP : Aside0 (0 < t.f3.length) := ⟨by have := KIDS.out.2.2.1; omega⟩
      have HN : Aside0 (t.f3.length ≤ 1000000) := ⟨by omega⟩
      have LEN := Aside0.mk hlen
      have K0 := Aside0.mk k0
      have HF := Aside0.mk (F_cut hF)
      have HCC := Aside0.mk hc
      have HB := Aside0.mk (Below.refl w.heap.size w)
      have w1' : wrap64 (n - 1) = n - 1 := by unfold wrap64; omega
      have w2' : Int.tdiv (n - 1) 2 = (n - 1) / 2 := half_eq n hn3
      have w3' : wrap64 ((n - 1) / 2) = (n - 1) / 2 := by unfold wrap64; omega
      have w4' : wrap64 (n - 1 - (n - 1) / 2) = n - 1 - (n - 1) / 2 := by unfold wrap64; omega
      clear ih hm hF hc hk w1 w8 h1 h8 hd hpa hn3 hn8 hlen k0
      go_enter Try.func86, Try.ntmps86
      go_upto_region 6 with (first | ((with_reducible refine gate_dst (N := 5) rfl ?_); (try (refine gate_guard (by rfl) ?_; dsimp only)); refine box_event ?hg (N := 5) ?hd (cs := #[.int .i64 t.f0, .int .i64 t.f1, .int .i64 t.f2, .slice A t.f3.length c]) (t := 31) ?hr ?_; (case hd => rfl); (case hg => rfl); (case hr => first | (go_simp; done) | (go_simp; rfl)); intro gT hg wT hbox hb; have BT := Aside0.mk hbox; have GT := Aside0.mk (by rw [hg]; exact below_size HB.out : w.heap.size ≤ gT); replace HB := Aside0.mk (below_step HB.out hb); replace HF := Aside0.mk (Kd.F_below HF.out hb); clear hb hbox hg; obtain ⟨z0, z1, z2, z3, f0, f1, f2, f3⟩ := cz4 BT.out) | ((with_reducible refine gate_dst (N := 10) rfl ?_); (try (refine gate_guard (by rfl) ?_; dsimp only)); refine box_event ?hg (N := 10) ?hd (cs := #[.int .i64 0, .int .i64 0, .int .i64 0, .slice none 0 0]) (t := 31) ?hr ?_; (case hd => rfl); (case hg => rfl); (case hr => first | (go_simp; done) | (go_simp; rfl)); intro gR hg wR hbox hb; have BR := Aside0.mk hbox; have GR := Aside0.mk (by rw [hg]; exact below_size HB.out : w.heap.size ≤ gR); have NTR := Aside0.mk (by rw [hg]; exact lt1 BT.out : gT ≠ gR); have NRT := Aside0.mk (by rw [hg]; exact gt1 BT.out : gR ≠ gT); replace BT := Aside0.mk (bb hb BT.out); replace HB := Aside0.mk (below_step HB.out hb); replace HF := Aside0.mk (Kd.F_below HF.out hb); clear hb hbox hg z0 z1 z2 z3 f0 f1 f2 f3; obtain ⟨z0, z1, z2, z3, f0, f1, f2, f3⟩ := cz4 BT.out) | ((with_reducible refine gate_dst (N := 12) rfl ?_); (try (refine gate_guard (by rfl) ?_; dsimp only)); refine box_event ?hg (N := 12) ?hd (cs := #[.int .i64 0, .int .i64 0, .int .i64 0, .slice none 0 0]) (t := 31) ?hr ?_; (case hd => rfl); (case hg => rfl); (case hr => first | (go_simp; done) | (go_simp; rfl)); intro gY hg wY hbox hb; have BY := Aside0.mk hbox; have GY := Aside0.mk (by rw [hg]; exact below_size HB.out : w.heap.size ≤ gY); have NTY := Aside0.mk (by rw [hg]; exact lt1 BT.out : gT ≠ gY); have NYT := Aside0.mk (by rw [hg]; exact gt1 BT.out : gY ≠ gT); have NRY := Aside0.mk (by rw [hg]; exact lt1 BR.out : gR ≠ gY); have NYR := Aside0.mk (by rw [hg]; exact gt1 BR.out : gY ≠ gR); replace BT := Aside0.mk (bb hb BT.out); replace BR := Aside0.mk (bb hb BR.out); replace HB := Aside0.mk (below_step HB.out hb); replace HF := Aside0.mk (Kd.F_below HF.out hb); clear hb hbox hg z0 z1 z2 z3 f0 f1 f2 f3; obtain ⟨z0, z1, z2, z3, f0, f1, f2, f3⟩ := cz4 BT.out; obtain ⟨y0, y1, y2, y3, e0, e1, e2, e3⟩ := cz4 BY.out; have nTY := NTY.out; have nYT := NYT.out))
      have hBT := far4 (v0 := .int .i64 0) (v1 := .int .i64 fresh) (v2 := .int .i64 ((n - 1) / 2)) (v3 := .slice none 0 0) NTY.out BT.out
      have hBR := far4 (v0 := .int .i64 0) (v1 := .int .i64 fresh) (v2 := .int .i64 ((n - 1) / 2)) (v3 := .slice none 0 0) NRY.out BR.out
      have hBY := put4 (v0 := .int .i64 0) (v1 := .int .i64 fresh) (v2 := .int .i64 ((n - 1) / 2)) (v3 := .slice none 0 0) BY.out
      have hHF := F_far4 (v0 := .int .i64 0) (v1 := .int .i64 fresh) (v2 := .int .i64 ((n - 1) / 2)) (v3 := .slice none 0 0) HF.out (fun k hk => by have := GY.out; have := hk.2; show k ≠ gY; omega)
      have hHB := below_set (j := 3) (v := .slice none 0 0) (below_set (j := 2) (v := .int .i64 ((n - 1) / 2)) (below_set (j := 1) (v := .int .i64 fresh) (below_set (j := 0) (v := .int .i64 0) HB.out GY.out) GY.out) GY.out) GY.out
      generalize hw3 : ((((wY.setCell ⟨gY, 0, none⟩ (.int .i64 0)).setCell ⟨gY, 1, none⟩ (.int .i64 fresh)).setCell ⟨gY, 2, none⟩ (.int .i64 ((n - 1) / 2))).setCell ⟨gY, 3, none⟩ (.slice none 0 0)) = w3 at hBT hBR hBY hHF hHB ⊢
      clear hw3 z0 z1 z2 z3 f0 f1 f2 f3 y0 y1 y2 y3 e0 e1 e2 e3 BT BR BY HF HB
      have BT := Aside0.mk hBT
      have BR := Aside0.mk hBR
      have BY := Aside0.mk hBY
      have HF := Aside0.mk hHF
      have HB := Aside0.mk hHB
      have WLE := Aside0.mk hHB.size
      clear hBT hBR hBY hHF hHB
      obtain ⟨z0, z1, z2, z3, f0, f1, f2, f3⟩ := cz4 BT.out
      go_upto_region 7 with (first | (go_at_call 109; refine (clone_tree _ (fun k => ok k ∧ k < w.heap.size) A c t.f3 HF.out HCC.out HP.out HN.out (fun k hk => Nat.lt_of_lt_of_le hk.2 WLE.out)).mono ?_; rintro e w2 ⟨g, cap, cells, rfl, HO0, hb⟩; have HO := Aside0.mk HO0; have GG := Aside0.mk HO0.low; have GTG := Aside0.mk (Nat.ne_of_lt (Nat.lt_of_lt_of_le (blk_lt BT.out) GG.out) : gT ≠ g); have GRG := Aside0.mk (Nat.ne_of_lt (Nat.lt_of_lt_of_le (blk_lt BR.out) GG.out) : gR ≠ g); have GRL := Aside0.mk (Nat.lt_of_lt_of_le (blk_lt BR.out) GG.out : gR < g); have GYG := Aside0.mk (Nat.ne_of_lt (Nat.lt_of_lt_of_le (blk_lt BY.out) GG.out) : gY ≠ g); replace BT := Aside0.mk (bb hb BT.out); replace BR := Aside0.mk (bb hb BR.out); replace BY := Aside0.mk (bb hb BY.out); replace HB := Aside0.mk (below_step HB.out hb); clear hb HO0 z0 z1 z2 z3 f0 f1 f2 f3; obtain ⟨z0, z1, z2, z3, f0, f1, f2, f3⟩ := cz4 BT.out))
      have hBT := blk_put BT.out 3 (.slice (some ⟨g, 0, none⟩) t.f3.length cap) rfl
      have hBR := blk_far (p := ⟨gT, 3, none⟩) BR.out NRT.out (.slice (some ⟨g, 0, none⟩) t.f3.length cap)
      have hBY := blk_far (p := ⟨gT, 3, none⟩) BY.out NYT.out (.slice (some ⟨g, 0, none⟩) t.f3.length cap)
      have hHO := HO.out.far (p := ⟨gT, 3, none⟩) GTG.out (fun k hk => by have := GT.out; have := hk.2; show k ≠ gT; omega) (.slice (some ⟨g, 0, none⟩) t.f3.length cap)
      have hHB := below_set (j := 3) (v := .slice (some ⟨g, 0, none⟩) t.f3.length cap) HB.out GT.out
      clear z0 z1 z2 z3 f0 f1 f2 f3 BT BR BY HO HB HF
      generalize hAD : (⟨g, 0, none⟩ : Addr) = ad at hBT hBR hBY hHO hHB ⊢
      have AD : RowAd ad g := ⟨hAD.symm⟩
      generalize hw4 : w2.setCell ⟨gT, 3, none⟩ (.slice (some ad) t.f3.length cap) = w4 at hBT hBR hBY hHO hHB ⊢
      have BT := Aside0.mk hBT
      have BR := Aside0.mk hBR
      have BY := Aside0.mk hBY
      have HO := Aside0.mk hHO
      have HB := Aside0.mk hHB
      clear hw4 hAD hBT hBR hBY hHO hHB
      obtain ⟨z0, z1, z2, z3, f0, f1, f2, f3⟩ := cz4 BT.out
      go_wp2
      go_loopg [45] t.f3.length (fun kq v45 w' => ∃ (i : Nat), v45 = .int .i64 (i : Int) ∧ Aside0 (i + kq = t.f3.length) ∧ Aside0 (∀ y ∈ t.f3.take i, hasA pane y = false) ∧ Aside0 (w'.heap[gT]? = some (.cells #[.int .i64 t.f0, .int .i64 t.f1, .int .i64 t.f2, .slice (some ad) t.f3.length cap] 31 (0, 0))) ∧ Aside0 (w'.heap[gR]? = some (.cells #[.int .i64 0, .int .i64 0, .int .i64 0, .slice none 0 0] 31 (0, 0))) ∧ Aside0 (w'.heap[gY]? = some (.cells #[.int .i64 0, .int .i64 fresh, .int .i64 ((n - 1) / 2), .slice none 0 0] 31 (0, 0))) ∧ Aside0 (OwnAt w' (fun k => ok k ∧ k < w.heap.size) w3.heap.size g cap cells t.f3) ∧ Aside0 (Below w.heap.size w w'))
      case atStart => exact ⟨0, rfl, ⟨by omega⟩, ⟨fun y hy => by simp at hy⟩, ⟨BT.out⟩, ⟨BR.out⟩, ⟨BY.out⟩, ⟨HO.out⟩, ⟨HB.out⟩⟩
      case round =>
        clear z0 z1 z2 z3 f0 f1 f2 f3 BT BR BY HO HB
        obtain ⟨i, rfl, HI, HA, BT, BR, BY, HO, HB⟩ := hrel
        have hi := HI.out
        obtain ⟨z0, z1, z2, z3, f0, f1, f2, f3⟩ := cz4 BT.out
        cases gk with
        | zero =>
          exfalso
          obtain ⟨x, hx, hx2⟩ := HKID.out
          have := HA.out x (by rw [show i = t.f3.length by omega, List.take_length]; exact hx)
          rw [this] at hx2
          cases hx2
        | succ k1 =>
          have hii : i < t.f3.length := by omega
          have c4 : decide ((i : Int) < (t.f3.length : Int)) = true := decide_eq_true (by omega)
          have p22 : (0 ≤ (i : Int)) = True := eq_true (by omega)
          have q22 : ((i : Int) < (t.f3.length : Int)) = True := eq_true (by omega)
          obtain ⟨xA, xc, hxv, x0, x1, x2, x3⟩ := HO.out.kids.got (j := i) (List.getElem?_eq_getElem hii) AD
          obtain ⟨xA', xc', hxe, hxl, hxF⟩ := hxv
          simp only [Value.agg.injEq, Array.mk.injEq, List.cons.injEq, Value.slice.injEq, and_true, true_and] at hxe
          obtain ⟨rfl, rfl⟩ := hxe
          have HXF := Aside0.mk hxF
          have HL3 := Aside0.mk hxl
          have YM := Aside0.mk (KIDS.out.2.2.2.1 _ (List.getElem_mem hii))
          have KBX := Aside0.mk (kid_box (kind := t.f0) YM.out.2.1 YM.out.2.2.1 HBD.out.1.1 HBD.out.1.2.1 HBD.out.1.2.2.1 HBD.out.1.2.2.2)
          clear hxl hxF hi
          go_upto_region 10 with (first | ((with_reducible refine gate_dst (N := 15) rfl ?_); (try (refine gate_guard (by rfl) ?_; dsimp only)); refine box_event ?hg (N := 15) ?hd (cs := #[.int .i64 0, .int .i64 0, .int .i64 0, .slice none 0 0]) (t := 31) ?hr ?_; (case hd => rfl); (case hg => rfl); (case hr => first | (go_simp; done) | (go_simp; rfl)); intro gK hg wK hbox hb; have BK := Aside0.mk hbox; have GK := Aside0.mk (by rw [hg]; exact below_size HB.out : w.heap.size ≤ gK); have NTK := Aside0.mk (by rw [hg]; exact lt1 BT.out : gT ≠ gK); have NKT := Aside0.mk (by rw [hg]; exact gt1 BT.out : gK ≠ gT); have NRK := Aside0.mk (by rw [hg]; exact lt1 BR.out : gR ≠ gK); have NYK := Aside0.mk (by rw [hg]; exact lt1 BY.out : gY ≠ gK); have NGK := Aside0.mk (by rw [hg]; exact lt1 HO.out.kids.blk : g ≠ gK); replace BT := Aside0.mk (bb hb BT.out); replace BR := Aside0.mk (bb hb BR.out); replace BY := Aside0.mk (bb hb BY.out); replace HO := Aside0.mk (HO.out.below hb); replace HXF := Aside0.mk (Kd.F_below HXF.out hb); replace HB := Aside0.mk (below_step HB.out hb); replace x0 := (hb.cell (World.block_lt_of_cell? _ _ x0)).trans x0; replace x1 := (hb.cell (World.block_lt_of_cell? _ _ x1)).trans x1; replace x2 := (hb.cell (World.block_lt_of_cell? _ _ x2)).trans x2; replace x3 := (hb.cell (World.block_lt_of_cell? _ _ x3)).trans x3; clear hb hbox hg z0 z1 z2 z3 f0 f1 f2 f3; obtain ⟨z0, z1, z2, z3, f0, f1, f2, f3⟩ := cz4 BT.out; have nTK := NTK.out; have nKT := NKT.out; have nGK := NGK.out; obtain ⟨y0, y1, y2, y3, e0, e1, e2, e3⟩ := cz4 BK.out))
          have hBT := far4 (v0 := .int .i64 t.f3[i].f0) (v1 := .int .i64 t.f3[i].f1) (v2 := .int .i64 t.f3[i].f2) (v3 := .slice xA t.f3[i].f3.length xc) NTK.out BT.out
          have hBR := far4 (v0 := .int .i64 t.f3[i].f0) (v1 := .int .i64 t.f3[i].f1) (v2 := .int .i64 t.f3[i].f2) (v3 := .slice xA t.f3[i].f3.length xc) NRK.out BR.out
          have hBY := far4 (v0 := .int .i64 t.f3[i].f0) (v1 := .int .i64 t.f3[i].f1) (v2 := .int .i64 t.f3[i].f2) (v3 := .slice xA t.f3[i].f3.length xc) NYK.out BY.out
          have hBK := put4 (v0 := .int .i64 t.f3[i].f0) (v1 := .int .i64 t.f3[i].f1) (v2 := .int .i64 t.f3[i].f2) (v3 := .slice xA t.f3[i].f3.length xc) BK.out
          have hHO := OwnAt.far4 (v0 := .int .i64 t.f3[i].f0) (v1 := .int .i64 t.f3[i].f1) (v2 := .int .i64 t.f3[i].f2) (v3 := .slice xA t.f3[i].f3.length xc) HO.out (Ne.symm NGK.out) (fun k hk => by have := GK.out; have := hk.2; show k ≠ gK; omega)
          have hXF := F_far4 (v0 := .int .i64 t.f3[i].f0) (v1 := .int .i64 t.f3[i].f1) (v2 := .int .i64 t.f3[i].f2) (v3 := .slice xA t.f3[i].f3.length xc) HXF.out (fun k hk => by have := GK.out; have := hk.2; show k ≠ gK; omega)
          have hHB := below_set (j := 3) (v := .slice xA t.f3[i].f3.length xc) (below_set (j := 2) (v := .int .i64 t.f3[i].f2) (below_set (j := 1) (v := .int .i64 t.f3[i].f1) (below_set (j := 0) (v := .int .i64 t.f3[i].f0) HB.out GK.out) GK.out) GK.out) GK.out
          generalize hw8 : ((((wK.setCell ⟨gK, 0, none⟩ (.int .i64 t.f3[i].f0)).setCell ⟨gK, 1, none⟩ (.int .i64 t.f3[i].f1)).setCell ⟨gK, 2, none⟩ (.int .i64 t.f3[i].f2)).setCell ⟨gK, 3, none⟩ (.slice xA t.f3[i].f3.length xc)) = w8 at hBT hBR hBY hBK hHO hXF hHB ⊢
          clear hw8 z0 z1 z2 z3 f0 f1 f2 f3 x0 x1 x2 x3 y0 y1 y2 y3 e0 e1 e2 e3 BT BR BY BK HO HXF HB
          have BT := Aside0.mk hBT
          have BR := Aside0.mk hBR
          have BY := Aside0.mk hBY
          have BK := Aside0.mk hBK
          have HO := Aside0.mk hHO
          have HXF := Aside0.mk hXF
          have HB := Aside0.mk hHB
          clear hBT hBR hBY hBK hHO hXF hHB
          obtain ⟨z0, z1, z2, z3, f0, f1, f2, f3⟩ := cz4 BT.out
          obtain ⟨y0, y1, y2, y3, e0, e1, e2, e3⟩ := cz4 BK.out
          have nTA : gT ≠ g := GTG.out
          have nRA : gR ≠ g := GRG.out
          by_cases ha : hasA pane t.f3[i] = true
          · have HS := Aside0.mk (splitL_kid (fun x => splitR k x pane kind fresh n) t.f0 pane kind fresh n t.f3 i hii HA.out ha)
            have SR : Aside0 (splitR (k + 1) t pane kind fresh n = ⟨t.f0, t.f1, t.f2, splitL (fun x => splitR k x pane kind fresh n) t.f0 pane kind fresh n t.f3⟩) := ⟨by rw [splitR, if_neg K0.out]⟩
            by_cases hc2 : t.f3[i].f0 = 0 ∧ t.f0 = kind
            · have c1 : (t.f3[i].f0 == 0) = true := beq_iff_eq.mpr hc2.1
              have c2 : (t.f3[i].f1 == pane) = true := by
                have h := ha
                rw [has_leaf hc2.1] at h
                exact beq_iff_eq.mpr (of_decide_eq_true h).symm
              have c3 : (t.f0 == kind) = true := beq_iff_eq.mpr hc2.2
              have HS2 := HS.out
              rw [if_pos hc2] at HS2
              replace HS := Aside0.mk HS2
              clear HS2 hc2
              obtain ⟨xf0, xf1, xf2, xf3⟩ := HO.out.kids.free AD i
              obtain ⟨_, _, _, x0, x1, x2, x3⟩ := HO.out.kids.got (j := i) (List.getElem?_eq_getElem hii) AD
              go_upto_region 12 with (fail)
              have hHO := HO.out.setSize (List.getElem?_eq_getElem hii) AD (n - 1 - (n - 1) / 2)
              have hBT := blk_far (p := ⟨(ad.add (i * 4)).block, (ad.add (i * 4)).off + 2, none⟩) BT.out (by rw [AD.at]; exact nTA) (.int .i64 (n - 1 - (n - 1) / 2))
              have hBR := blk_far (p := ⟨(ad.add (i * 4)).block, (ad.add (i * 4)).off + 2, none⟩) BR.out (by rw [AD.at]; exact nRA) (.int .i64 (n - 1 - (n - 1) / 2))
              have hBY := blk_far (p := ⟨(ad.add (i * 4)).block, (ad.add (i * 4)).off + 2, none⟩) BY.out (by rw [AD.at]; exact GYG.out) (.int .i64 (n - 1 - (n - 1) / 2))
              have hHB := HB.out.setCell (p := ⟨(ad.add (i * 4)).block, (ad.add (i * 4)).off + 2, none⟩) (by rw [AD.at]; show w.heap.size ≤ g; have := GG.out; have := WLE.out; omega) (.int .i64 (n - 1 - (n - 1) / 2))
              generalize hw11 : w8.setCell ⟨(ad.add (i * 4)).block, (ad.add (i * 4)).off + 2, none⟩ (.int .i64 (n - 1 - (n - 1) / 2)) = w11 at hHO hBT hBR hBY hHB ⊢
              clear hw11 z0 z1 z2 z3 f0 f1 f2 f3 x0 x1 x2 x3 xf0 xf1 xf2 xf3 y0 y1 y2 y3 e0 e1 e2 e3 BT BR BY BK HO HXF HB
              have hlen : (t.f3.set i ⟨t.f3[i].f0, t.f3[i].f1, n - 1 - (n - 1) / 2, t.f3[i].f3⟩).length = t.f3.length := List.length_set
              have hins := ins_set t.f3 i hii (withSize t.f3[i] (n - 1 - (n - 1) / 2)) (young fresh n)
              generalize hys : t.f3.set i ⟨t.f3[i].f0, t.f3[i].f1, n - 1 - (n - 1) / 2, t.f3[i].f3⟩ = ys at hHO hlen
              have hins2 : ys.take (i + 1) ++ young fresh n :: ys.drop (i + 1) = t.f3.take i ++ (withSize t.f3[i] (n - 1 - (n - 1) / 2) :: young fresh n :: t.f3.drop (i + 1)) := by rw [← hys]; exact hins
              have H := insert_tree (hHO.below (below_alloc (Below.refl _ w11) (.cells #[.int .i64 0, .int .i64 fresh, .int .i64 ((n - 1) / 2), .slice none 0 0] 31))) (by have := blk_lt hHO.kids.blk; have := GG.out; simp only [World.size_alloc]; omega) (by rw [hlen]; exact HP.out) (by rw [hlen]; have := LEN.out; omega) (fun k hk => by have := hk.2; have := GG.out; have := WLE.out; have := blk_lt hHO.kids.blk; simp only [World.size_alloc]; omega) (y := young fresh n) (A := none) (c := 0) (vb := w11.heap.size) (cv := 1) (heap_alloc_new w11 _) (Nat.ne_of_gt (blk_lt hHO.kids.blk)) (Nat.le_refl _) (fun W' _ => Kd.C_nil _ _) (i + 1) (by rw [hlen]; omega)
              rw [hlen, show ((i + 1 : Nat) : Int) = (i : Int) + 1 by omega, hins2] at H
              have HCALL := Aside0.mk H
              have HS3 : Aside0 (splitR (k + 1) t pane kind fresh n = ⟨t.f0, t.f1, t.f2, t.f3.take i ++ (withSize t.f3[i] (n - 1 - (n - 1) / 2) :: young fresh n :: t.f3.drop (i + 1))⟩) := ⟨by rw [SR.out, HS.out]⟩
              have HL3' : Aside0 ((t.f3.take i ++ (withSize t.f3[i] (n - 1 - (n - 1) / 2) :: young fresh n :: t.f3.drop (i + 1))).length = t.f3.length + 1) := ⟨by simp only [List.length_append, List.length_take, List.length_cons, List.length_drop]; omega⟩
              generalize t.f3.take i ++ (withSize t.f3[i] (n - 1 - (n - 1) / 2) :: young fresh n :: t.f3.drop (i + 1)) = zs at HCALL HS3 HL3'
              have GLT := Aside0.mk (blk_lt hHO.kids.blk)
              have BT := Aside0.mk hBT
              have BR := Aside0.mk hBR
              have BY := Aside0.mk hBY
              have HB := Aside0.mk hHB
              clear H hins hins2 hys hlen hHO hBT hBR hBY hHB HS SR
              have w5' : wrap64 ((i : Int) + 1) = (i : Int) + 1 := by have := LEN.out; unfold wrap64; omega
              obtain ⟨z0, z1, z2, z3, f0, f1, f2, f3⟩ := cz4 BT.out
              obtain ⟨y0, y1, y2, y3, _, _, _, _⟩ := cz4 BY.out
              have ADE := AD.eq
              subst ADE
              go_upto_region 13 with (first | (go_at_call 116; refine HCALL.out.mono ?_; rintro e w12 ⟨g', cap', cells', rfl, hO2, hgg, hOR, hbl⟩; have HO2 := Aside0.mk hO2; have HGG := Aside0.mk (hgg.imp id fun h => (by simpa only [World.size_alloc] using h : w11.heap.size + 1 ≤ g')); have GTL := Aside0.mk (blk_lt BT.out); have GRL2 := Aside0.mk (blk_lt BR.out); replace BT := Aside0.mk (only_blkS hOR nTA (bb (below_alloc (Below.refl _ w11) _) BT.out)); replace BR := Aside0.mk (only_blkS hOR nRA (bb (below_alloc (Below.refl _ w11) _) BR.out)); replace HB := Aside0.mk ((below_alloc HB.out (.cells #[.int .i64 0, .int .i64 fresh, .int .i64 ((n - 1) / 2), .slice none 0 0] 31)).trans (hbl.mono WLE.out)); clear hO2 hgg hOR hbl z0 z1 z2 z3 f0 f1 f2 f3 y0 y1 y2 y3; obtain ⟨z0, z1, z2, z3, f0, f1, f2, f3⟩ := cz4 BT.out))
              have GTG2 : Aside0 (gT ≠ g') := ⟨by have := HGG.out; have := GTL.out; have := nTA; omega⟩
              have GG2 : Aside0 (w.heap.size ≤ g') := ⟨by have := HGG.out; have := GG.out; have := WLE.out; have := GLT.out; omega⟩
              have hBT := blk_put BT.out 3 (.slice (some ⟨g', 0, none⟩) zs.length cap') rfl
              have hBR := blk_far (p := ⟨gT, 3, none⟩) BR.out NRT.out (.slice (some ⟨g', 0, none⟩) zs.length cap')
              have hHO := HO2.out.far (p := ⟨gT, 3, none⟩) GTG2.out (fun k hk => by have := GT.out; have := hk.2; show k ≠ gT; omega) (.slice (some ⟨g', 0, none⟩) zs.length cap')
              have hHB := below_set (j := 3) (v := .slice (some ⟨g', 0, none⟩) zs.length cap') HB.out GT.out
              generalize hw13 : w12.setCell ⟨gT, 3, none⟩ (.slice (some ⟨g', 0, none⟩) zs.length cap') = w13 at hBT hBR hHO hHB ⊢
              clear hw13 z0 z1 z2 z3 f0 f1 f2 f3 BT BR HO2 HB
              have BT := Aside0.mk hBT
              have BR := Aside0.mk hBR
              have HO := Aside0.mk hHO
              have HB := Aside0.mk hHB
              have GRG2 : Aside0 (gR ≠ g') := ⟨by have := HGG.out; have := GRL2.out; have := nRA; omega⟩
              clear hBT hBR hHO hHB
              obtain ⟨z0, z1, z2, z3, f0, f1, f2, f3⟩ := cz4 BT.out
              obtain ⟨r0, r1, r2, r3, rf0, rf1, rf2, rf3⟩ := cz4 BR.out
              have nTR := NTR.out
              have nRT := NRT.out
              go_wp2_with (first | ((with_reducible refine gate_store (t := 31) (p := 10) rfl ?_); (refine store_event (t := 31) (p := 10) (v := ?voi) (w1 := ((((w13.setCell ⟨gR, 0, none⟩ (.int .i64 t.f0)).setCell ⟨gR, 1, none⟩ (.int .i64 t.f1)).setCell ⟨gR, 2, none⟩ (.int .i64 t.f2)).setCell ⟨gR, 3, none⟩ (.slice (some ⟨g', 0, none⟩) zs.length cap'))) ?hg ?ho ?hn ?hr ?_; (case ho => rfl); (case hg => rfl); (case hn => rfl); (case hr => first | (go_simp; done) | (go_simp; rfl)); intro w9 hw; have N1 : Aside0 (w9.heap[gR]? = some (.cells #[.int .i64 t.f0, .int .i64 t.f1, .int .i64 t.f2, .slice (some ⟨g', 0, none⟩) zs.length cap'] 31 (0, 0))) := ⟨by rw [hw]; exact put4 BR.out⟩; have N2 : Aside0 (Below w.heap.size w w9) := ⟨by rw [hw]; exact below_set (below_set (below_set (below_set HB.out GR.out) GR.out) GR.out) GR.out⟩; have N3 := Aside0.mk (show OwnAt w9 (fun k => ok k ∧ k < w.heap.size) w3.heap.size g' cap' cells' zs from by rw [hw]; exact OwnAt.far4 HO.out GRG2.out (fun k hk => by have := GR.out; have := hk.2; show k ≠ gR; omega)); clear z0 z1 z2 z3 f0 f1 f2 f3 r0 r1 r2 r3 rf0 rf1 rf2 rf3; clear hw)))
              obtain ⟨s0, s1, s2, s3, _, _, _, _⟩ := cz4 N1.out
              refine bodyPost_ret (v := .agg #[.int .i64 t.f0, .int .i64 t.f1, .int .i64 t.f2, .slice (some ⟨g', 0, none⟩) zs.length cap']) (by simp [results, Try.results86, go_sem, s0, s1, s2, s3]) rfl ?_
              rw [HS3.out]
              refine ⟨_, rfl, (N3.out.kids.tree (cap := cap') N3.out.fit t.f0 t.f1 t.f2).mono (fun k hk => ?_), N2.out⟩
              have := GG2.out
              rcases hk with hk | hk
              · exact .inl hk.1
              · exact .inr (by omega)
            · have hcc : (t.f3[i].f0 == 0) = false ∨ ((t.f3[i].f0 == 0) = true ∧ (t.f3[i].f1 == pane) = true ∧ (t.f0 == kind) = false) := by
                by_cases h0 : t.f3[i].f0 = 0
                · refine .inr ⟨beq_iff_eq.mpr h0, ?_, beq_eq_false_iff_ne.mpr (fun e => hc2 ⟨h0, e⟩)⟩
                  have h := ha
                  rw [has_leaf h0] at h
                  exact beq_iff_eq.mpr (of_decide_eq_true h).symm
                · exact .inl (beq_eq_false_iff_ne.mpr h0)
              have HS2 := HS.out
              rw [if_neg hc2] at HS2
              have HS3 : Aside0 (splitR (k + 1) t pane kind fresh n = ⟨t.f0, t.f1, t.f2, t.f3.set i (splitR k t.f3[i] pane kind fresh n)⟩) := ⟨by rw [SR.out, HS2]; exact congrArg (S31.mk t.f0 t.f1 t.f2) (set_split t.f3 i hii _)⟩
              have hh := has_mk w8 t.f3[i] xA xc pane YM.out.2.2.2 KBX.out.1 KBX.out.2.1 KBX.out.2.2.1 KBX.out.2.2.2 (Nat.le_of_succ_le HBD.out.2.1) (Kd.F_now HXF.out)
              rw [ha] at hh
              have HH := Aside0.mk hh
              have HIN := Aside0.mk (of_decide_eq_true ha)
              have APG : Aside0 (∀ k, (ok k ∧ k < w.heap.size ∨ g < k) → k ≠ g) := ⟨fun k hk => by have := GG.out; have := WLE.out; omega⟩
              clear HS2 HS SR hc2 hh
              rcases hcc with c1 | ⟨c1, c2, c3⟩
              all_goals
                go_upto_region 15 with (first | (go_at_call 74; refine HH.out.mono ?_; rintro e w14 ⟨rfl, hb⟩; replace BT := Aside0.mk (bb hb BT.out); replace BR := Aside0.mk (bb hb BR.out); replace BY := Aside0.mk (bb hb BY.out); replace BK := Aside0.mk (bb hb BK.out); replace HO := Aside0.mk (HO.out.below hb); replace HXF := Aside0.mk (Kd.F_below HXF.out hb); replace HB := Aside0.mk (below_step HB.out hb); clear hb z0 z1 z2 z3 f0 f1 f2 f3 y0 y1 y2 y3 e0 e1 e2 e3; obtain ⟨z0, z1, z2, z3, f0, f1, f2, f3⟩ := cz4 BT.out; obtain ⟨y0, y1, y2, y3, e0, e1, e2, e3⟩ := cz4 BK.out))
                have AT := AD.at i
                have nKA : gK ≠ g := Ne.symm NGK.out
                have xf0 := HO.out.kids.frozen (4 * i)
                have xf1 := HO.out.kids.frozen (4 * i + 1)
                have xf2 := HO.out.kids.frozen (4 * i + 2)
                have xf3 := HO.out.kids.frozen (4 * i + 3)
                obtain ⟨x0, x1, x2, _, _, x3, _, _⟩ := HO.out.kids.cell (j := i) (List.getElem?_eq_getElem hii)
                go_region_held3 (fun w' => w'.cell? ⟨gT, 3, none⟩ = some (.slice (some ad) t.f3.length cap) ∧ w'.cell? ⟨gK, 0, none⟩ = some (.int .i64 t.f3[i].f0) ∧ w'.cell? ⟨gK, 1, none⟩ = some (.int .i64 t.f3[i].f1) ∧ w'.cell? ⟨gK, 2, none⟩ = some (.int .i64 t.f3[i].f2) ∧ w'.cell? ⟨gK, 3, none⟩ = some (.slice xA t.f3[i].f3.length xc)) (first | exact ⟨z3, y0, y1, y2, y3⟩ | exact ⟨z3', y0', y1', y2', y3'⟩ | exact ⟨cell_farP (p := ⟨g, 4 * i, none⟩) nTA z3', cell_farP (p := ⟨g, 4 * i, none⟩) nKA y0', cell_farP (p := ⟨g, 4 * i, none⟩) nKA y1', cell_farP (p := ⟨g, 4 * i, none⟩) nKA y2', cell_farP (p := ⟨g, 4 * i, none⟩) nKA y3'⟩) (first | (go_at_call 86; refine (IH.out t.f3[i] _ _ YM.out.2.2.2 KBX.out.1 KBX.out.2.1 KBX.out.2.2.1 KBX.out.2.2.2 (Nat.le_of_succ_le HBD.out.2.1) k (Nat.le_of_succ_le_succ HBD.out.2.2.1) pane kind fresh n HIN.out HBD.out.2.2.2.1 HBD.out.2.2.2.2 _ _ xA xc (Kd.F_below HXF.out (below_drew (Below.refl _ _))) HL3.out).mono ?_; rintro e w86 ⟨v, rfl, ⟨A5, c5, rfl, h5, hF5⟩, hb⟩; have z3' := (hb.cell (World.block_lt_of_cell? w14 _ z3)).trans z3; have y0' := (hb.cell (World.block_lt_of_cell? w14 _ y0)).trans y0; have y1' := (hb.cell (World.block_lt_of_cell? w14 _ y1)).trans y1; have y2' := (hb.cell (World.block_lt_of_cell? w14 _ y2)).trans y2; have y3' := (hb.cell (World.block_lt_of_cell? w14 _ y3)).trans y3; have x0' := (hb.cell (World.block_lt_of_cell? w14 _ x0)).trans x0; have x1' := (hb.cell (World.block_lt_of_cell? w14 _ x1)).trans x1; have x2' := (hb.cell (World.block_lt_of_cell? w14 _ x2)).trans x2; have x3' := (hb.cell (World.block_lt_of_cell? w14 _ x3)).trans x3; have HOD := Aside0.mk (HO.out.below (below_step (below_drew (Below.refl _ _)) hb)); have xg0 := HOD.out.kids.frozen (4 * i); have xg1 := HOD.out.kids.frozen (4 * i + 1); have xg2 := HOD.out.kids.frozen (4 * i + 2); have xg3 := HOD.out.kids.frozen (4 * i + 3)))
                have hb' : Below w14.heap.size w14 w86 := below_step (below_drew (Below.refl _ _)) hb
                have hgl : g < w14.heap.size := blk_lt HO.out.kids.blk
                have hF6 : Kd.F k31 w86 (fun k => ok k ∧ k < w.heap.size ∨ g < k) A5 (splitR k t.f3[i] pane kind fresh n).f3.length (splitR k t.f3[i] pane kind fresh n).f3 := Kd.F_mono hF5 (fun k hk => hk.elim (fun hk => .inl hk) (fun hk => .inr (Nat.lt_of_lt_of_le hgl hk)))
                obtain ⟨cells4, hO4⟩ := ((HO.out.below hb').mono (ok' := fun k => ok k ∧ k < w.heap.size ∨ g < k) (fun k hk => .inl hk) APG.out).putL (j := i) hii (splitR k t.f3[i] pane kind fresh n) h5 hF6
                have HO4 := Aside0.mk hO4
                have HB4 := Aside0.mk (below_step HB.out hb')
                have BT4 := Aside0.mk (bb hb' BT.out)
                have BR4 := Aside0.mk (bb hb' BR.out)
                clear hO4 hF6 hF5 hb hb'
                have hBT := blk_farP (p := ⟨g, 4 * i, none⟩) (v0 := .int .i64 (splitR k t.f3[i] pane kind fresh n).f0) (v1 := .int .i64 (splitR k t.f3[i] pane kind fresh n).f1) (v2 := .int .i64 (splitR k t.f3[i] pane kind fresh n).f2) (v3 := .slice A5 (splitR k t.f3[i] pane kind fresh n).f3.length c5) BT4.out nTA
                have hBR := blk_farP (p := ⟨g, 4 * i, none⟩) (v0 := .int .i64 (splitR k t.f3[i] pane kind fresh n).f0) (v1 := .int .i64 (splitR k t.f3[i] pane kind fresh n).f1) (v2 := .int .i64 (splitR k t.f3[i] pane kind fresh n).f2) (v3 := .slice A5 (splitR k t.f3[i] pane kind fresh n).f3.length c5) BR4.out nRA
                have hHB := below_setP (p := ⟨g, 4 * i, none⟩) (v0 := .int .i64 (splitR k t.f3[i] pane kind fresh n).f0) (v1 := .int .i64 (splitR k t.f3[i] pane kind fresh n).f1) (v2 := .int .i64 (splitR k t.f3[i] pane kind fresh n).f2) (v3 := .slice A5 (splitR k t.f3[i] pane kind fresh n).f3.length c5) HB4.out (by show w.heap.size ≤ g; have := GG.out; have := WLE.out; omega)
                have hHO := HO4.out
                generalize hw15 : (((w86.setCell ⟨g, 4 * i, none⟩ (.int .i64 (splitR k t.f3[i] pane kind fresh n).f0)).setCell ⟨g, 4 * i + 1, none⟩ (.int .i64 (splitR k t.f3[i] pane kind fresh n).f1)).setCell ⟨g, 4 * i + 2, none⟩ (.int .i64 (splitR k t.f3[i] pane kind fresh n).f2)).setCell ⟨g, 4 * i + 3, none⟩ (.slice A5 (splitR k t.f3[i] pane kind fresh n).f3.length c5) = w15 at hBT hBR hHB hHO ⊢
                clear hw15 z0 z1 z2 z3 f0 f1 f2 f3 x0 x1 x2 x3 xf0 xf1 xf2 xf3 y0 y1 y2 y3 e0 e1 e2 e3 z3' y0' y1' y2' y3' x0' x1' x2' x3' xg0 xg1 xg2 xg3 HOD BT BR BT4 BR4 HO HO4 HB HB4
                have BT := Aside0.mk hBT
                have BR := Aside0.mk hBR
                have HO := Aside0.mk hHO
                have HB := Aside0.mk hHB
                clear hBT hBR hHO hHB
                obtain ⟨z0, z1, z2, z3, f0, f1, f2, f3⟩ := cz4 BT.out
                obtain ⟨r0, r1, r2, r3, rf0, rf1, rf2, rf3⟩ := cz4 BR.out
                have nTR := NTR.out
                have nRT := NRT.out
                go_wp2_with (first | ((with_reducible refine gate_store (t := 31) (p := 10) rfl ?_); (refine store_event (t := 31) (p := 10) (v := ?vor) (w1 := ((((w15.setCell ⟨gR, 0, none⟩ (.int .i64 t.f0)).setCell ⟨gR, 1, none⟩ (.int .i64 t.f1)).setCell ⟨gR, 2, none⟩ (.int .i64 t.f2)).setCell ⟨gR, 3, none⟩ (.slice (some ad) t.f3.length cap))) ?hg ?ho ?hn ?hr ?_; (case ho => rfl); (case hg => rfl); (case hn => rfl); (case hr => first | (go_simp; done) | (go_simp; rfl)); intro w9 hw; have N1 : Aside0 (w9.heap[gR]? = some (.cells #[.int .i64 t.f0, .int .i64 t.f1, .int .i64 t.f2, .slice (some ad) t.f3.length cap] 31 (0, 0))) := ⟨by rw [hw]; exact put4 BR.out⟩; have N2 : Aside0 (Below w.heap.size w w9) := ⟨by rw [hw]; exact below_set (below_set (below_set (below_set HB.out GR.out) GR.out) GR.out) GR.out⟩; have N3 := Aside0.mk (show OwnAt w9 (fun k => ok k ∧ k < w.heap.size ∨ g < k) w3.heap.size g cap cells4 (t.f3.set i (splitR k t.f3[i] pane kind fresh n)) from by rw [hw]; exact OwnAt.far4 HO.out GRG.out (fun k hk => by have := GR.out; have := GRL.out; show k ≠ gR; omega)); clear z0 z1 z2 z3 f0 f1 f2 f3 r0 r1 r2 r3 rf0 rf1 rf2 rf3; clear hw)))
                obtain ⟨s0, s1, s2, s3, _, _, _, _⟩ := cz4 N1.out
                refine bodyPost_ret (v := .agg #[.int .i64 t.f0, .int .i64 t.f1, .int .i64 t.f2, .slice (some ad) t.f3.length cap]) (by simp [results, Try.results86, go_sem, s0, s1, s2, s3]) rfl ?_
                rw [HS3.out]
                have hml : (t.f3.set i (splitR k t.f3[i] pane kind fresh n)).length = t.f3.length := List.length_set
                have hT := N3.out.kids.tree (cap := cap) N3.out.fit t.f0 t.f1 t.f2
                rw [hml, ← AD.eq] at hT
                refine ⟨_, rfl, hT.mono (fun k hk => ?_), N2.out⟩
                have := GG.out
                have := WLE.out
                rcases hk with (hk | hk) | hk
                · exact .inl hk.1
                · exact .inr (by omega)
                · exact .inr (by omega)
          · have ha' : hasA pane t.f3[i] = false := by cases h : hasA pane t.f3[i] with
              | false => rfl
              | true => exact absurd h ha
            have hcc : (t.f3[i].f0 == 0) = false ∨ ((t.f3[i].f0 == 0) = true ∧ (t.f3[i].f1 == pane) = false) := by
              by_cases h0 : t.f3[i].f0 = 0
              · refine .inr ⟨beq_iff_eq.mpr h0, ?_⟩
                have h := ha'
                rw [has_leaf h0] at h
                exact beq_eq_false_iff_ne.mpr (fun e => (of_decide_eq_false h) e.symm)
              · exact .inl (beq_eq_false_iff_ne.mpr h0)
            have hh := has_mk w8 t.f3[i] xA xc pane YM.out.2.2.2 KBX.out.1 KBX.out.2.1 KBX.out.2.2.1 KBX.out.2.2.2 (Nat.le_of_succ_le HBD.out.2.1) (Kd.F_now HXF.out)
            rw [ha'] at hh
            have HH := Aside0.mk hh
            have HA2 : Aside0 (∀ y ∈ t.f3.take (i + 1), hasA pane y = false) := ⟨fun y hy => by
              rw [take_one t.f3 i hii] at hy
              rcases List.mem_append.1 hy with hy | hy
              · exact HA.out y hy
              · rw [List.mem_singleton.1 hy]; exact ha'⟩
            clear hh ha ha'
            rcases hcc with c1 | ⟨c1, c2⟩
            all_goals
              go_wp2_with (first | (go_at_call 74; refine HH.out.mono ?_; rintro e w14 ⟨rfl, hb⟩; replace BT := Aside0.mk (bb hb BT.out); replace BR := Aside0.mk (bb hb BR.out); replace BY := Aside0.mk (bb hb BY.out); replace BK := Aside0.mk (bb hb BK.out); replace HO := Aside0.mk (HO.out.below hb); replace HXF := Aside0.mk (Kd.F_below HXF.out hb); replace HB := Aside0.mk (below_step HB.out hb); clear hb z0 z1 z2 z3 f0 f1 f2 f3 y0 y1 y2 y3 e0 e1 e2 e3; obtain ⟨z0, z1, z2, z3, f0, f1, f2, f3⟩ := cz4 BT.out; obtain ⟨y0, y1, y2, y3, e0, e1, e2, e3⟩ := cz4 BK.out))
              go_roundg k1
              case measure => omega
              case rel =>
                refine ⟨i + 1, ?_, ⟨by have := HI.out; omega⟩, ⟨HA2.out⟩, ⟨BT.out⟩, ⟨BR.out⟩, ⟨BY.out⟩, ⟨HO.out⟩, ⟨HB.out⟩⟩
                first | rfl | (congr 1; first | omega | (have := LEN.out; unfold wrap64; omega))
end Go.Proofs.Ytplngfammfdemaa
end
section
namespace Go.Proofs.Ytplngfammfdemaa
open Go.RowKit Go.Proofs.YtplngfammfdemaaW.PrintWords Go.Proofs.YtplngfammfdemaaW.PrintMore Q
set_option linter.unusedVariables false
set_option linter.unusedSimpArgs false
def lieL (f : S31 → Int → Int → Int → Int → List S44) (kind w h : Int) : List S31 → Int → Int → List S44
  | [], _, _ => []
  | t :: l, x, y => f t x y (kwd kind t.f2 w) (khd kind t.f2 h) ++ lieL f kind w h l (if kind = 1 then x + (t.f2 + 1) else x) (if kind = 1 then y else y + (t.f2 + 1))
def lieR : Nat → S31 → Int → Int → Int → Int → List S44
  | 0, _, _, _, _, _ => []
  | k + 1, t, x, y, w, h => if t.f0 = 0 then [⟨t.f1, x, y, w, h⟩] else lieL (lieR k) t.f0 w h t.f3 x y
theorem lieL_panes (d : Nat) (kind w h : Int) : ∀ (l : List S31), (∀ t ∈ l, ∀ x y w h, (lieR d t x y w h).map (·.f0) = psR d t) → ∀ x y, (lieL (lieR d) kind w h l x y).map (·.f0) = l.flatMap (psR d) := by
  intro l
  induction l with
  | nil => intro _ x y; rfl
  | cons t l ih =>
    intro hl x y
    simp only [lieL, List.map_append, List.flatMap_cons]
    rw [hl t (List.mem_cons_self ..), ih (fun u hu => hl u (List.mem_cons_of_mem _ hu))]
theorem lie_panes : ∀ (d : Nat) (t : S31) (x y w h : Int), (lieR d t x y w h).map (·.f0) = psR d t := by
  intro d
  induction d with
  | zero => intro t x y w h; rfl
  | succ d ih =>
    intro t x y w h
    unfold lieR psR
    by_cases h0 : t.f0 = 0
    · rw [if_pos h0, if_pos h0]; rfl
    · rw [if_neg h0, if_neg h0]
      exact lieL_panes d t.f0 w h t.f3 (fun u _ => ih u) x y
theorem lie_len (d : Nat) (t : S31) (x y w h : Int) : (lieR d t x y w h).length = (psR d t).length := by
  rw [← lie_panes d t x y w h, List.length_map]
theorem lieL_kids (K d : Nat) (kind w h : Int) (hkind : kind = 1 ∨ kind = 2) : ∀ (l : List S31), (∀ t ∈ l, 1 ≤ t.f2 ∧ t.f2 ≤ 80 ∧ (psR d t).length ≤ 8 ∧ ∀ x y, 0 ≤ x → x + kwd kind t.f2 w ≤ 200 → 0 ≤ y → y + khd kind t.f2 h ≤ 200 → LieAt K t x y (kwd kind t.f2 w) (khd kind t.f2 h) (lieR d t x y (kwd kind t.f2 w) (khd kind t.f2 h))) →
    ∀ x y, 0 ≤ x → 0 ≤ y → x + (if kind = 1 then sumF l + l.length - 1 else w) ≤ 200 → y + (if kind = 1 then h else sumF l + l.length - 1) ≤ 200 → LieKids K kind w h l x y (lieL (lieR d) kind w h l x y) := by
  intro l
  induction l with
  | nil => intro _ x y _ _ _ _; rfl
  | cons t l ih =>
    intro hl x y hx hy hxw hyh
    obtain ⟨a, b, c, e⟩ := hl t (List.mem_cons_self ..)
    have hs := sumF_ge l (fun u hu => (hl u (List.mem_cons_of_mem _ hu)).1)
    rw [sumF_cons, List.length_cons] at hxw hyh
    have hnil : l = [] → LieKids K kind w h l (if kind = 1 then x + (t.f2 + 1) else x) (if kind = 1 then y else y + (t.f2 + 1)) (lieL (lieR d) kind w h l (if kind = 1 then x + (t.f2 + 1) else x) (if kind = 1 then y else y + (t.f2 + 1))) := by
      intro e; rw [e]; rfl
    refine ⟨lieR d t x y (kwd kind t.f2 w) (khd kind t.f2 h), lieL (lieR d) kind w h l _ _, rfl, by rw [lie_len]; omega, e x y hx ?_ hy ?_, ?_⟩
    · unfold kwd; split <;> rename_i hc <;> simp only [hc, if_true, if_false] at hxw <;> omega
    · unfold khd; split <;> rename_i hc <;> simp only [hc, if_true, if_false] at hyh <;> omega
    · by_cases hl0 : l = []
      · exact hnil hl0
      · have hl1 : 1 ≤ l.length := List.length_pos_iff.2 hl0
        refine ih (fun u hu => hl u (List.mem_cons_of_mem _ hu)) _ _ ?_ ?_ ?_ ?_
        · split <;> omega
        · split <;> omega
        · split <;> rename_i hc <;> simp only [hc, if_true, if_false] at hxw <;> omega
        · split <;> rename_i hc <;> simp only [hc, if_true, if_false] at hyh <;> omega
theorem lie_mk : ∀ (d : Nat) (t : S31) (w h : Int), Mk d t w h → 1 ≤ w → w ≤ 80 → 1 ≤ h → h ≤ 80 → (psR d t).length ≤ 8 → ∀ x y, 0 ≤ x → x + w ≤ 200 → 0 ≤ y → y + h ≤ 200 → LieAt (70 * d) t x y w h (lieR d t x y w h) := by
  intro d
  induction d with
  | zero => intro t w h hm; exact hm.elim
  | succ d ih =>
    intro t w h hm w1 w8 h1 h8 hp x y hx hxw hy hyh
    by_cases h0 : t.f0 = 0
    · intro k hk
      obtain ⟨k, rfl⟩ : ∃ m, k = m + 1 := ⟨k - 1, by omega⟩
      simp only [tree_lie.f, lieR]
      rw [if_pos h0, if_pos h0]
    · obtain ⟨hkd, hf1, h2, hkk, hs⟩ := hm.kids h0
      have hps : psR (d + 1) t = t.f3.flatMap (psR d) := psR_node d h0
      rw [hps] at hp
      have hone : ∀ u ∈ t.f3, 1 ≤ (psR d u).length := fun u hu => ps_pos d u _ _ (hkk u hu).2.2.2
      have hl := flat_less t.f3 (psR d) hone h2
      have hlen : t.f3.length ≤ (t.f3.flatMap (psR d)).length := by
        have : ∀ l : List S31, (∀ u ∈ l, 1 ≤ (psR d u).length) → l.length ≤ (l.flatMap (psR d)).length := by
          intro l
          induction l with
          | nil => intro _; simp
          | cons u l ihl =>
            intro hl
            rw [List.flatMap_cons, List.length_append, List.length_cons]
            have := hl u (List.mem_cons_self ..)
            have := ihl (fun v hv => hl v (List.mem_cons_of_mem _ hv))
            omega
        exact this t.f3 hone
      have hlie : lieR (d + 1) t x y w h = lieL (lieR d) t.f0 w h t.f3 x y := by rw [lieR]; rw [if_neg h0]
      rw [hlie]
      unfold alo at hs
      have hk := lieL_kids (70 * d) d t.f0 w h hkd t.f3 (fun u hu => by
        obtain ⟨_, b, c, e⟩ := hkk u hu
        obtain ⟨p, q, r, s⟩ := kid_box (kind := t.f0) b c w1 w8 h1 h8
        have := hl u hu
        exact ⟨b, c, by omega, ih u _ _ e p q r s (by omega)⟩) x y hx hy (by split <;> rename_i hc <;> simp only [hc, if_true, if_false] at hs <;> omega) (by split <;> rename_i hc <;> simp only [hc, if_true, if_false] at hs <;> omega)
      have := lie_node (70 * d) t.f0 t.f1 t.f2 t.f3 x y w h hkd (by omega) ⟨hx, by omega⟩ ⟨hy, by omega⟩ (fun u hu => ⟨(hkk u hu).2.1, (hkk u hu).2.2.1⟩) _ hk
      exact fun k hk' => this k (by omega)
/-- A pane's cells along a way, off the list. -/
def findC (pane kind : Int) (rs : List S44) : Int := match rs.find? (fun r => r.f0 == pane) with
  | some r => alo kind r.f3 r.f4
  | none => 0
theorem find_none {pane : Int} {rs : List S44} (h : pane ∉ rs.map (·.f0)) : rs.find? (fun r => r.f0 == pane) = none := by
  rw [List.find?_eq_none]
  intro r hr e
  exact h (List.mem_map.2 ⟨r, hr, by simpa using e⟩)
theorem findC_left {pane kind : Int} {a b : List S44} (h : pane ∈ a.map (·.f0)) : findC pane kind (a ++ b) = findC pane kind a := by
  unfold findC
  rw [List.find?_append]
  cases ha : a.find? (fun r => r.f0 == pane) with
  | some r => rfl
  | none =>
    rw [List.find?_eq_none] at ha
    obtain ⟨r, hr, e⟩ := List.mem_map.1 h
    exact absurd (by simpa using e) (ha r hr)
theorem findC_right {pane kind : Int} {a b : List S44} (h : pane ∉ a.map (·.f0)) : findC pane kind (a ++ b) = findC pane kind b := by
  unfold findC
  rw [List.find?_append, find_none h]
  rfl
theorem cells_find : ∀ (d k : Nat) (t : S31) (w h : Int), Mk d t w h → d ≤ k → d ≤ 20 → ∀ (pane kind x y : Int), pane ∈ psR d t → findC pane kind (lieR d t x y w h) = cellsR k t w h pane kind := by
  intro d
  induction d with
  | zero => intro k t w h hm; exact hm.elim
  | succ d ih =>
    intro k t w h hm hk hd pane kind x y hp
    obtain ⟨k, rfl⟩ : ∃ m, k = m + 1 := ⟨k - 1, by omega⟩
    unfold lieR cellsR
    by_cases h0 : t.f0 = 0
    · rw [if_pos h0, if_pos h0]
      rw [psR_leaf d h0] at hp
      obtain rfl := List.mem_singleton.1 hp
      unfold findC
      simp
    · rw [if_neg h0, if_neg h0]
      obtain ⟨hkd, hf1, h2, hkk, hs⟩ := hm.kids h0
      rw [psR_node d h0] at hp
      have key : ∀ l : List S31, (∀ u ∈ l, Mk d u (kwd t.f0 u.f2 w) (khd t.f0 u.f2 h)) → pane ∈ l.flatMap (psR d) → ∀ x y, findC pane kind (lieL (lieR d) t.f0 w h l x y) = cellsL (fun x => cellsR k x (kwd t.f0 x.f2 w) (khd t.f0 x.f2 h) pane kind) pane l := by
        intro l
        induction l with
        | nil => intro _ hp; simp at hp
        | cons u l ihl =>
          intro hu hp x y
          have hmu := hu u (List.mem_cons_self ..)
          have hpa : psA u = psR d u := psA_of hmu (by omega)
          unfold lieL cellsL
          by_cases hin : pane ∈ psR d u
          · have : hasA pane u = true := by unfold hasA; rw [hpa]; exact decide_eq_true hin
            rw [if_pos this, findC_left (by rw [lie_panes]; exact hin)]
            exact ih k u _ _ hmu (by omega) (by omega) pane kind x y hin
          · have : ¬ hasA pane u = true := by unfold hasA; rw [hpa]; simpa using hin
            rw [if_neg this, findC_right (by rw [lie_panes]; exact hin)]
            rw [List.flatMap_cons] at hp
            exact ihl (fun v hv => hu v (List.mem_cons_of_mem _ hv)) ((List.mem_append.1 hp).resolve_left hin) _ _
      exact key t.f3 (fun u hu => (hkk u hu).2.2.2) hp x y
/-- The index of a pane on the list. -/
theorem idx_find (pane kind : Int) : ∀ (rs : List S44), pane ∈ rs.map (·.f0) → ∃ i : Nat, i < rs.length ∧ idxR (fun r => r.f0 == pane) rs = i ∧ alo kind (rd_T44 rs (i : Int)).f3 (rd_T44 rs (i : Int)).f4 = findC pane kind rs := by
  intro rs hp
  have hx : ∃ r ∈ rs, (r.f0 == pane) = true := by
    obtain ⟨r, hr, e⟩ := List.mem_map.1 hp
    exact ⟨r, hr, by simpa using e⟩
  have hlt : rs.findIdx (fun r => r.f0 == pane) < rs.length := List.findIdx_lt_length.2 hx
  have hat : (rs[rs.findIdx (fun r => r.f0 == pane)].f0 == pane) = true := List.findIdx_getElem (w := hlt)
  have e44 : ∀ j (hj : j < rs.length), rd_T44 rs (j : Int) = rs[j] := fun j hj => by unfold rd_T44; rw [Int.toNat_natCast, List.getD_eq_getElem?_getD, List.getElem?_eq_getElem hj]; rfl
  refine ⟨_, hlt, idxR_at hlt (fun j hj => ?_) (by rw [e44 _ hlt]; exact hat), ?_⟩
  · rw [e44 j (by omega)]
    exact by simpa using List.not_of_lt_findIdx hj
  · rw [e44 _ hlt]
    unfold findC
    have hfd : rs.find? (fun r => r.f0 == pane) = some (rs[rs.findIdx (fun r => r.f0 == pane)]'hlt) := List.find?_eq_some_iff_getElem.2 ⟨hat, _, hlt, rfl, fun j hj => by simpa using List.not_of_lt_findIdx hj⟩
    rw [hfd]
theorem idx_no (pane : Int) (rs : List S44) (h : pane ∉ rs.map (·.f0)) : idxR (fun r => r.f0 == pane) rs = -1 := by
  refine idxR_none (fun j hj => ?_)
  have e44 : rd_T44 rs (j : Int) = rs[j] := by unfold rd_T44; rw [Int.toNat_natCast, List.getD_eq_getElem?_getD, List.getElem?_eq_getElem hj]; rfl
  rw [e44]
  by_cases e : rs[j].f0 = pane
  · exact absurd (List.mem_map.2 ⟨_, List.getElem_mem hj, e⟩) h
  · simpa using e
end Go.Proofs.Ytplngfammfdemaa
end
