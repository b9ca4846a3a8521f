-- Copies of the texts YtplngfammfdemaaUInts, YtplngfammfdemaaUNamed, YtplngfammfdemaaMS6, YtplngfammfdemaaUNamedN with what this claim does not reach left out (prune.py, a program of this project).
import Derived.Test.YtplngfammfdemaaZyUFitW
import Derived.Test.YtplngfammfdemaaZyMS0
import Derived.Test.YtplngfammfdemaaZyMS2
import Derived.Test.YtplngfammfdemaaZyGShort
import Derived.Deep.RegionHeld3
section
namespace Go.Proofs.Ytplngfammfdemaa
open Go.RowKit Go.Proofs.YtplngfammfdemaaW.PrintWords Go.Proofs.YtplngfammfdemaaW.PrintLast Go.Proofs.YtplngfammfdemaaW.PrintMore Q
set_option linter.unusedVariables false
set_option linter.unusedSimpArgs false
def vints (xs : List Int) : List Value := xs.map (fun x => Value.int .i64 x)
theorem vints_one (xs : List Int) : ∀ u ∈ vints xs, u.oneCell' = true := fun u hu => by
  unfold vints at hu
  obtain ⟨x, _, rfl⟩ := List.mem_map.1 hu
  rfl
theorem vints_len (xs : List Int) : (vints xs).length = xs.length := List.length_map ..
/-- A block whose first cells are these numbers. -/
structure IntsAt (w : World) (g : Nat) (cells : Array Value) (xs : List Int) : Prop where
  blk : w.heap[g]? = some (.cells cells 3 (0, 0))
  at_ : ∀ (j : Nat) (x : Int), xs[j]? = some x → cells[j]? = some (Value.int .i64 x)
  few : xs.length ≤ 1000000
section
variable {w w1 : World} {base g cap : Nat} {ok : Nat → Prop} {cells : Array Value} {xs : List Int} {v : Value}
theorem IntsAt.V (h : IntsAt w g cells xs) (hc : xs.length ≤ cap) (hok : ok g) : Kd.V (Kd.int .i64) 3 w base ok (.slice (some ⟨g, 0, none⟩) xs.length cap) xs := by
  refine ⟨some ⟨g, 0, none⟩, cap, rfl, hc, fun W' hW => ?_⟩
  have hb : W'.heap[g]? = some (.cells cells 3 (0, 0)) := (hW g hok (blk_lt h.blk)).trans h.blk
  refine ⟨rfl, by have := h.few; omega, fun _ => ⟨_, rfl, fun j x hj => ⟨[.int .i64 x], rfl, rfl, fun j' u hu => ?_⟩⟩⟩
  rcases j' with _ | j'
  · simp only [List.getElem?_cons_zero, Option.some.injEq] at hu
    subst hu
    have := (blk_cell hb j).trans (h.at_ j x hj)
    have hz : (Kd.int .i64).sz = 1 := rfl
    rw [hz, Nat.mul_one, Nat.add_zero]
    rw [Addr.add_lit]; simpa using this
  · simp at hu
theorem IntsAt.F (h : IntsAt w g cells xs) : Kd.F (Kd.int .i64) w (fun k => k = g) (some ⟨g, 0, none⟩) xs.length xs := by
  obtain ⟨A, c, e, hl, hF⟩ := h.V (base := 0) (cap := xs.length) (ok := fun k => k = g) (Nat.le_refl _) rfl
  simp only [Value.slice.injEq] at e
  obtain ⟨rfl, _, rfl⟩ := e
  exact hF
theorem IntsAt.C (h : IntsAt w g cells xs) : Kd.C (Kd.int .i64) w (some ⟨g, 0, none⟩) xs.length xs := Kd.F_now h.F
theorem IntsAt.of_own {n : Nat} (h : w.ownsRow base 3 1 v n (vints xs)) (hn : 0 < xs.length) (hf : xs.length ≤ 1000000) :
    ∃ g cap, ∃ cells : Array Value, v = .slice (some ⟨g, 0, none⟩) xs.length cap ∧ base ≤ g ∧ xs.length ≤ cap ∧ cap ≤ maxLen ∧ cells.size = cap ∧ IntsAt w g cells xs := by
  obtain ⟨h1, h2⟩ := h
  rw [vints_len, Nat.mul_one] at h1
  subst h1
  rcases h2 with ⟨_, h0⟩ | ⟨g, cap, cur, rfl, hb, hg, hnc, hcm, hsz, htk⟩
  · omega
  · refine ⟨g, cap, cur, rfl, hb, hnc, hcm, by rw [hsz, Nat.mul_one], hg, fun j x hj => ?_, hf⟩
    rw [Nat.mul_one] at htk
    have hjl : j < xs.length := (List.getElem?_eq_some_iff.1 hj).1
    have h3 : (cur.toList.take xs.length)[j]? = (vints xs)[j]? := by rw [htk]
    rw [List.getElem?_take_of_lt hjl] at h3
    unfold vints at h3
    rw [List.getElem?_map, hj] at h3
    rw [← Array.getElem?_toList]; exact h3
theorem IntsAt.below (h : IntsAt w g cells xs) (hb : Below w.heap.size w w1) : IntsAt w1 g cells xs := ⟨blk_below h.blk hb, h.at_, h.few⟩
theorem IntsAt.far (h : IntsAt w g cells xs) {p : Addr} (hp : g ≠ p.block) (u : Value) : IntsAt (w.setCell p u) g cells xs := ⟨blk_far h.blk hp u, h.at_, h.few⟩
theorem IntsAt.put (h : IntsAt w g cells xs) {j : Nat} (hj : j < xs.length) (y : Int) : IntsAt (w.setCell ⟨g, j, none⟩ (.int .i64 y)) g (cells.setIfInBounds j (.int .i64 y)) (xs.set j y) := by
  refine ⟨blk_put h.blk j _ rfl, fun i x hi => ?_, by rw [List.length_set]; exact h.few⟩
  by_cases e : i = j
  · subst e
    rw [List.getElem?_set_self hj] at hi
    simp only [Option.some.injEq] at hi
    subst hi
    exact set_eq _ _ _ (by rw [h.at_ i xs[i] (List.getElem?_eq_getElem hj)]; rfl)
  · rw [List.getElem?_set_ne (Ne.symm e)] at hi
    rw [set_ne _ _ _ _ (Ne.symm e)]
    exact h.at_ i x hi
theorem IntsAt.cell (h : IntsAt w g cells xs) {j : Nat} (hj : j < xs.length) : w.cell? ⟨g, j, none⟩ = some (.int .i64 xs[j]) := (blk_cell h.blk j).trans (h.at_ j _ (List.getElem?_eq_getElem hj))
/-- What lies behind the first o of them, m of them. -/
theorem IntsAt.sub (h : IntsAt w g cells xs) (o m : Nat) : ∀ j u, (vints ((xs.drop o).take m))[j]? = some u → w.cell? ((⟨g, o, none⟩ : Addr).add j) = some u := by
  intro j u hj
  unfold vints at hj
  rw [List.getElem?_map] at hj
  obtain ⟨x, hx, rfl⟩ := Option.map_eq_some_iff.1 hj
  rw [List.getElem?_take] at hx
  split at hx
  · rw [List.getElem?_drop] at hx
    rw [addr_addU]
    exact (blk_cell h.blk _).trans (h.at_ _ x hx)
  · cases hx
end
end Go.Proofs.Ytplngfammfdemaa
end
section
namespace Go.Proofs.Ytplngfammfdemaa
open Go.RowKit Go.Proofs.YtplngfammfdemaaW.PrintWords Go.Proofs.YtplngfammfdemaaW.PrintLast Go.Proofs.YtplngfammfdemaaW.PrintMore Q
set_option linter.unusedVariables false
set_option linter.unusedSimpArgs false
/-- Only block g is another; what lay below it lies as it did. -/
structure OnlyB (w w' : World) (g : Nat) : Prop where
 size : w.heap.size ≤ w'.heap.size
 others : ∀ i, i < w.heap.size → ¬ i = g → w'.heap[i]? = w.heap[i]?
 bel : Below g w w'
 lt : g ≤ w.heap.size
theorem OnlyB.refl (w : World) {g : Nat} (h : g ≤ w.heap.size) : OnlyB w w g := ⟨Nat.le_refl _, fun _ _ _ => rfl, Below.refl _ _, h⟩
theorem OnlyB.trans {w w1 w2 : World} {g : Nat} (h : OnlyB w w1 g) (k : OnlyB w1 w2 g) : OnlyB w w2 g := ⟨Nat.le_trans h.1 k.1, fun i hi hn => (k.2 i (Nat.lt_of_lt_of_le hi h.1) hn).trans (h.2 i hi hn), h.bel.trans k.bel, h.lt⟩
theorem OnlyB.drew (w : World) {g : Nat} (h : g ≤ w.heap.size) : OnlyB w w.drew g := ⟨Nat.le_refl _, fun _ _ _ => rfl, (Below.refl _ _).drew, h⟩
theorem OnlyB.drewR {w w1 : World} {g : Nat} (h : OnlyB w w1 g) : OnlyB w w1.drew g := ⟨h.1, h.2, h.bel.drew, h.lt⟩
theorem OnlyB.below {w w1 w2 : World} {g : Nat} (h : OnlyB w w1 g) (hb : Below w1.heap.size w1 w2) : OnlyB w w2 g :=
 ⟨Nat.le_trans h.1 hb.size, fun i hi hn => (hb.block i (Nat.lt_of_lt_of_le hi h.1)).trans (h.2 i hi hn), h.bel.trans (hb.mono (Nat.le_trans h.lt h.1)), h.lt⟩
theorem OnlyB.new {w w1 : World} {g : Nat} (h : OnlyB w w1 g) {p : Addr} (hp : w.heap.size ≤ p.block ∨ p.block = g) (u : Value) : OnlyB w (w1.setCell p u) g :=
 ⟨by simpa [World.setCell] using h.1, fun i hi hn => (Below.heap_setCell w1 p u i (fun e => by rcases hp with hp | hp <;> omega)).trans (h.2 i hi hn), h.bel.setCell (by have := h.lt; omega) u, h.lt⟩
/-- What is left of the names. -/
def NamedOut (w w' : World) (ok okN : Nat → Prop) (nb : Nat) (e : Ending) (r : S31 × List Int) : Prop :=
 ∃ v NA nc, e = .returned v ∧ TreeV w' (fun k => ok k ∨ w.heap.size ≤ k) v r.1 ∧ w'.heap[nb]? = some (.cells #[.slice NA r.2.length nc] 22 (0, 0)) ∧ r.2.length ≤ nc ∧ Kd.F (Kd.int .i64) w' okN NA r.2.length r.2 ∧ OnlyB w w' nb
set_option maxHeartbeats 16000000 in
set_option maxRecDepth 100000 in
theorem named_leaf (t : S31) (k0 : t.f0 = 0) (h3 : t.f3 = []) (k : Nat) (x : Int) (l : List Int) (w : World) (ok okN : Nat → Prop) (A : Option Addr) (c : Nat) (hF : Kd.F k31 w ok A t.f3.length t.f3) (hc : t.f3.length ≤ c) (nb : Nat) (NA : Option Addr) (nc : Nat) (hN : w.heap[nb]? = some (.cells #[.slice NA (x :: l).length nc] 22 (0, 0))) (hnc : (x :: l).length ≤ nc) (hln : (x :: l).length ≤ 1000000) (hFN : Kd.F (Kd.int .i64) w okN NA (x :: l).length (x :: l)) (hokN : ∀ j, okN j → j ≠ nb) (hok : ∀ j, ok j → j ≠ nb) :
 Calls Try.prog 81 #[.agg #[.int .i64 t.f0, .int .i64 t.f1, .int .i64 t.f2, .slice A t.f3.length c], .pointer (some ⟨nb, 0, none⟩)] w fun e w' => NamedOut w w' ok okN nb e (namedR (k + 1) t (x :: l)) := by
 have hu31 := Try.underlying31
 obtain ⟨ad, cs, e9, _, hK, hc0⟩ := Kd.C_get (Kd.F_now hFN) 0 0 (by omega) (by rw [List.length_cons]; omega)
 subst e9
 have e0 : w.cell? (ad.add 0) = some (.int .i64 x) := by
  have := hc0 0 (.int .i64 x) (by rw [show cs = [.int .i64 x] from hK]; rfl)
  simpa using this
 rw [Addr.add_zero'] at e0
 have HF := zM (F_cut hF)
 have HFN := zM (Kd.F_bound hFN)
 have HCC := zM hc
 have HO := zM (OnlyB.refl w (Nat.le_of_lt (blk_lt hN)))
 have BN := zM hN
 have HN := zM (And.intro hokN hok)
 have H3 := zM h3
 have HNC := zM hnc
 have HLT := zM (zL w _ e0)
 have b0 : (t.f0 == 0) = true := beq_iff_eq.mpr k0
 have n1 := (blk_cell BN.out 0).trans rfl
 have nf := blk_frozen BN.out 0
 have p1 : ((1 : Int) ≤ (l.length : Int) + 1) := by omega
 clear hF hFN hc hN hokN hok h3 hnc k0 hc0 hK
 go_enter Try.func81, Try.ntmps81
 go_upto_region 2 with (first | ((with_reducible refine gate_dst (N := 2) rfl ?_); (try (refine gate_guard (by rfl) ?_; dsimp only)); refine box_event ?hg (N := 2) ?hd (cs := #[.int .i64 t.f0, .int .i64 t.f1, .int .i64 t.f2, .slice A t.f3.length c]) (t := 31) ?hr ?_; (case hd => rfl); (case hg => rfl); (case hr => first | (go_simp; done) | (go_simp; rfl)); intro gT hg wT hbox hb; have BT := zM hbox; have GT := zM (by rw [hg] : gT = w.heap.size); have GNT := zM (by rw [hg]; exact lt1 BN.out : nb ≠ gT); replace BN := zM (bb hb BN.out); replace HO := zM (OnlyB.below HO.out hb); replace HF := zM (Kd.F_below HF.out hb); replace HFN := zM (Kd.F_below HFN.out hb); have hb2 := hb; clear hb hbox hg; replace e0 := (hb2.cell (zL _ _ e0)).trans e0; clear n1 nf hb2; obtain ⟨z0, z1, z2, z3, f0, f1, f2, f3⟩ := cz4 BT.out; have n1 := (blk_cell BN.out 0).trans rfl; have nf := blk_frozen BN.out 0; have gNT := GNT.out; have gTN := Ne.symm GNT.out) | ((with_reducible refine gate_dst (N := 4) rfl ?_); (try (refine gate_guard (by rfl) ?_; dsimp only)); refine box_event ?hg (N := 4) ?hd (cs := #[.int .i64 0, .int .i64 0, .int .i64 0, .slice none 0 0]) (t := 31) ?hr ?_; (case hd => rfl); (case hg => rfl); (case hr => first | (go_simp; done) | (go_simp; rfl)); intro gR hg wR hbox hb; have BR := zM hbox; have GR := zM (by rw [hg]; exact HO.out.1 : w.heap.size ≤ gR); have NTR := zM (by rw [hg]; exact lt1 BT.out : gT ≠ gR); have NRT := zM (by rw [hg]; exact gt1 BT.out : gR ≠ gT); have GNR := zM (by rw [hg]; exact lt1 BN.out : nb ≠ gR); replace BT := zM (bb hb BT.out); replace BN := zM (bb hb BN.out); replace HO := zM (OnlyB.below HO.out hb); replace HF := zM (Kd.F_below HF.out hb); replace HFN := zM (Kd.F_below HFN.out hb); have WLE := zM (HO.out.1); have hb2 := hb; clear hb hbox hg z0 z1 z2 z3 f0 f1 f2 f3 n1 nf; obtain ⟨z0, z1, z2, z3, f0, f1, f2, f3⟩ := cz4 BT.out; obtain ⟨r0, r1, r2, r3, rf0, rf1, rf2, rf3⟩ := cz4 BR.out; have nTR := NTR.out; have nRT := NRT.out; have n1 := (blk_cell BN.out 0).trans rfl; have nf := blk_frozen BN.out 0; have gNR := GNR.out; have gRN := Ne.symm GNR.out; replace e0 := (hb2.cell (zL _ _ e0)).trans e0; clear hb2))
 go_region
 have hBT := blk_drew (blk_far (p := ⟨nb, 0, none⟩) (blk_put BT.out 1 (.int .i64 x) rfl) gTN (.slice (if nc = 1 then some ad else some ⟨ad.block, ad.off + 1, none⟩) l.length (nc - 1)))
 have hBN := blk_drew (blk_put (blk_far (p := ⟨gT, 1, none⟩) BN.out gNT (.int .i64 x)) 0 (.slice (if nc = 1 then some ad else some ⟨ad.block, ad.off + 1, none⟩) l.length (nc - 1)) rfl)
 have hBR := blk_drew (blk_far (p := ⟨nb, 0, none⟩) (blk_far (p := ⟨gT, 1, none⟩) BR.out nRT (.int .i64 x)) gRN (.slice (if nc = 1 then some ad else some ⟨ad.block, ad.off + 1, none⟩) l.length (nc - 1)))
 have hHO := ((HO.out.new (p := ⟨gT, 1, none⟩) (.inl (Nat.le_of_eq GT.out.symm)) (.int .i64 x)).new (p := ⟨nb, 0, none⟩) (.inr rfl) (.slice (if nc = 1 then some ad else some ⟨ad.block, ad.off + 1, none⟩) l.length (nc - 1))).drewR
 have hHF := Kd.F_drew (Kd.F_far (p := ⟨nb, 0, none⟩) (Kd.F_far (p := ⟨gT, 1, none⟩) HF.out (fun j hj => by have := GT.out; have := hj.2; show j ≠ gT; omega) (.int .i64 x)) (fun j hj => HN.out.2 j hj.1) (.slice (if nc = 1 then some ad else some ⟨ad.block, ad.off + 1, none⟩) l.length (nc - 1)))
 have hFN1 := Kd.F_cut (m := 1) HFN.out (by rw [List.length_cons]; omega) HNC.out
 have hFN2 := Kd.F_drew (Kd.F_far (p := ⟨nb, 0, none⟩) (Kd.F_far (p := ⟨gT, 1, none⟩) hFN1 (fun j hj => by have := GT.out; have := hj.2; show j ≠ gT; omega) (.int .i64 x)) (fun j hj => HN.out.1 j hj.1) (.slice (if nc = 1 then some ad else some ⟨ad.block, ad.off + 1, none⟩) l.length (nc - 1)))
 have ead : (Option.map (fun x => x.add (1 * (Kd.int .i64).sz)) (some ad)) = some ⟨ad.block, ad.off + 1, none⟩ := by
  show some (ad.add 1) = _
  congr 1
 rw [ead] at hFN2
 clear hFN1 ead
 generalize hw5 : ((wR.setCell ⟨gT, 1, none⟩ (.int .i64 x)).setCell ⟨nb, 0, none⟩ (.slice (if nc = 1 then some ad else some ⟨ad.block, ad.off + 1, none⟩) l.length (nc - 1))).drew = w5 at hBT hBN hBR hHO hHF hFN2 ⊢
 clear hw5 z0 z1 z2 z3 f0 f1 f2 f3 r0 r1 r2 r3 rf0 rf1 rf2 rf3 n1 nf e0 BT BN BR HO HF HFN
 generalize hNA : (if nc = 1 then some ad else some ⟨ad.block, ad.off + 1, none⟩ : Option Addr) = NA2 at hBN hFN2 ⊢
 clear hNA
 have BT := zM hBT
 have BR := zM hBR
 have BN := zM hBN
 have HO := zM hHO
 have HF := zM hHF
 have HFN := zM hFN2
 clear hBT hBN hBR hHO hHF hFN2
 have hz0 : w5.cell? ⟨gT, 0, none⟩ = some (.int .i64 t.f0) := (blk_cell BT.out 0).trans rfl
 have hz1 : w5.cell? ⟨gT, 1, none⟩ = some (.int .i64 x) := (blk_cell BT.out 1).trans rfl
 have hz2 : w5.cell? ⟨gT, 2, none⟩ = some (.int .i64 t.f2) := (blk_cell BT.out 2).trans rfl
 have hz3 : w5.cell? ⟨gT, 3, none⟩ = some (.slice A t.f3.length c) := (blk_cell BT.out 3).trans rfl
 obtain ⟨r0, r1, r2, r3, rf0, rf1, rf2, rf3⟩ := cz4 BR.out
 go_wp2_with (first | ((with_reducible refine gate_store (t := 31) (p := 4) rfl ?_); refine store_event (t := 31) (p := 4) (v := ?vo) (w1 := ((((w5.setCell ⟨gR, 0, none⟩ (.int .i64 t.f0)).setCell ⟨gR, 1, none⟩ (.int .i64 x)).setCell ⟨gR, 2, none⟩ (.int .i64 t.f2)).setCell ⟨gR, 3, none⟩ (.slice A t.f3.length c))) ?hg ?ho ?hn ?hr ?_; (case ho => rfl); (case hg => rfl); (case hn => rfl); (case hr => first | (go_simp; done) | (go_simp; rfl)); intro w9 hw; have N1 : Aside0 (w9.heap[gR]? = some (.cells #[.int .i64 t.f0, .int .i64 x, .int .i64 t.f2, .slice A t.f3.length c] 31 (0, 0))) := ⟨by rw [hw]; exact put4 BR.out⟩; have N2 : Aside0 (OnlyB w w9 nb) := ⟨by rw [hw]; exact (((HO.out.new (p := ⟨gR, 0, none⟩) (.inl GR.out) _).new (p := ⟨gR, 1, none⟩) (.inl GR.out) _).new (p := ⟨gR, 2, none⟩) (.inl GR.out) _).new (p := ⟨gR, 3, none⟩) (.inl GR.out) _⟩; have N3 : Aside0 (w9.heap[nb]? = some (.cells #[.slice NA2 l.length (nc - 1)] 22 (0, 0))) := ⟨by rw [hw]; exact far4 GNR.out BN.out⟩; have N4 : Aside0 (Kd.F k31 w9 (fun k => ok k ∧ k < w.heap.size) A t.f3.length t.f3) := ⟨by rw [hw]; exact Kd.F_far (p := ⟨gR, 3, none⟩) (Kd.F_far (p := ⟨gR, 2, none⟩) (Kd.F_far (p := ⟨gR, 1, none⟩) (Kd.F_far (p := ⟨gR, 0, none⟩) HF.out (fun k hk => by have := GR.out; have := hk.2; show k ≠ gR; omega) _) (fun k hk => by have := GR.out; have := hk.2; show k ≠ gR; omega) _) (fun k hk => by have := GR.out; have := hk.2; show k ≠ gR; omega) _) (fun k hk => by have := GR.out; have := hk.2; show k ≠ gR; omega) _⟩; have N5 : Aside0 (Kd.F (Kd.int .i64) w9 (fun k => okN k ∧ k < w.heap.size) NA2 l.length l) := ⟨by rw [hw]; exact Kd.F_far (p := ⟨gR, 3, none⟩) (Kd.F_far (p := ⟨gR, 2, none⟩) (Kd.F_far (p := ⟨gR, 1, none⟩) (Kd.F_far (p := ⟨gR, 0, none⟩) HFN.out (fun k hk => by have := GR.out; have := hk.2; show k ≠ gR; omega) _) (fun k hk => by have := GR.out; have := hk.2; show k ≠ gR; omega) _) (fun k hk => by have := GR.out; have := hk.2; show k ≠ gR; omega) _) (fun k hk => by have := GR.out; have := hk.2; show k ≠ gR; omega) _⟩; clear hw; clear hz0 hz1 hz2 hz3 r0 r1 r2 r3 rf0 rf1 rf2 rf3))
 obtain ⟨s0, s1, s2, s3, _, _, _, _⟩ := cz4 N1.out
 have k00 : t.f0 = 0 := beq_iff_eq.mp b0
 have eN : namedR (k + 1) t (x :: l) = (⟨t.f0, x, t.f2, t.f3⟩, l) := by unfold namedR; rw [if_pos k00]; rfl
 refine bodyPost_ret (v := .agg #[.int .i64 t.f0, .int .i64 x, .int .i64 t.f2, .slice A t.f3.length c]) (by simp [results, Try.results81, go_sem, s0, s1, s2, s3]) rfl ?_
 rw [eN]
 exact ⟨_, _, _, rfl, ⟨A, c, rfl, HCC.out, Kd.F_mono N4.out (fun k hk => .inl hk.1)⟩, N3.out, by have := HNC.out; rw [List.length_cons] at this; show l.length ≤ nc - 1; omega, Kd.F_mono N5.out (fun k hk => hk.1), N2.out⟩
end Go.Proofs.Ytplngfammfdemaa
end
section
namespace Go.Proofs.Ytplngfammfdemaa
open Q
set_option linter.unusedVariables false
set_option linter.unusedSimpArgs false
theorem flat_split (d : Nat) (xs : List S31) (i : Nat) (h : i < xs.length) : (xs.flatMap (psR d)).length = ((xs.take i).flatMap (psR d)).length + (psR d xs[i]).length + ((xs.drop (i + 1)).flatMap (psR d)).length := by
  have e : xs = xs.take i ++ xs[i] :: xs.drop (i + 1) := by rw [← drop_one xs i h, List.take_append_drop]
  have e2 := congrArg (fun l : List S31 => (l.flatMap (psR d)).length) e
  simp only [List.flatMap_append, List.flatMap_cons, List.length_append] at e2
  omega
theorem nameL_eq {d k : Nat} (hdk : d ≤ k) (xs : List S31) (l : List Int) (hm : ∀ x ∈ xs, ∃ w h, Mk d x w h) (hr : ∀ n ∈ l, 1 ≤ n ∧ n ≤ 999) (hl : (xs.flatMap (psR d)).length ≤ l.length) : ∀ i, i ≤ xs.length → nameL (namedR k) xs l i = l.drop ((xs.take i).flatMap (psR d)).length := by
  intro i
  induction i with
  | zero => intro _; rfl
  | succ i ih =>
    intro hi
    have h := flat_split d xs i (by omega)
    rw [nameL_step (namedR k) xs l i (by omega), ih (by omega)]
    obtain ⟨w, hh, hx⟩ := hm xs[i] (List.getElem_mem _)
    have h3 := (named_mk d k xs[i] w hh (l.drop ((xs.take i).flatMap (psR d)).length) hx hdk (by rw [List.length_drop]; omega) (fun n hn => hr n (List.mem_of_mem_drop hn))).2.2
    rw [h3, List.drop_drop, take_one xs i (by omega), List.flatMap_append, List.length_append]
    simp
theorem name_enough {d k : Nat} (hdk : d ≤ k) (xs : List S31) (l : List Int) (hm : ∀ x ∈ xs, ∃ w h, Mk d x w h) (hr : ∀ n ∈ l, 1 ≤ n ∧ n ≤ 999) (hl : (xs.flatMap (psR d)).length ≤ l.length) (i : Nat) (hi : i < xs.length) : (psR d xs[i]).length ≤ (nameL (namedR k) xs l i).length ∧ (nameL (namedR k) xs l i).length ≤ l.length ∧ (∀ n ∈ nameL (namedR k) xs l i, 1 ≤ n ∧ n ≤ 999) := by
  have h := flat_split d xs i hi
  rw [nameL_eq hdk xs l hm hr hl i (by omega), List.length_drop]
  exact ⟨by omega, by omega, fun n hn => hr n (List.mem_of_mem_drop hn)⟩
end Go.Proofs.Ytplngfammfdemaa
end
section
namespace Go.Proofs.Ytplngfammfdemaa
open Go.RowKit Go.Proofs.YtplngfammfdemaaW.PrintWords Go.Proofs.YtplngfammfdemaaW.PrintLast Go.Proofs.YtplngfammfdemaaW.PrintMore Q
set_option linter.unusedVariables false
set_option linter.unusedSimpArgs false
section
variable {w w1 : World} {ok : Nat → Prop} {base g cap nb : Nat} {cells : Array Value} {xs : List S31}
theorem only_cell (h : OnlyB w w1 nb) {a : Addr} (ha : a.block ≠ nb) {v : Value} (hv : w.cell? a = some v) : w1.cell? a = some v :=
  (World.cell?_of_block (h.2 _ (World.block_lt_of_cell? w _ hv) ha)).trans hv
theorem only_blk (h : OnlyB w w1 nb) {b : Nat} (hb : b ≠ nb) {o : Obj} (ho : w.heap[b]? = some o) : w1.heap[b]? = some o :=
  (h.2 b (blk_lt ho) hb).trans ho
theorem F_only {A : Option Addr} {n : Nat} {ys : List S31} (h : Kd.F k31 w ok A n ys) (hO : OnlyB w w1 nb) (hn : ∀ k, ok k → k ≠ nb) : Kd.F k31 w1 ok A n ys := Kd.F_step h (fun k hk hlt => hO.2 k hlt (hn k hk))
theorem OwnAt.only (h : OwnAt w ok base g cap cells xs) (hO : OnlyB w w1 nb) (hg : g ≠ nb) (hn : ∀ k, ok k → k ≠ nb) : OwnAt w1 ok base g cap cells xs :=
  ⟨⟨only_blk hO hg h.kids.blk, fun j x hj => (h.kids.at_ j x hj).step (fun A hF => F_only hF hO hn), h.kids.few, h.kids.apart⟩, h.low, h.fit, h.most, h.size⟩
end
set_option maxHeartbeats 16000000 in
set_option maxRecDepth 100000 in
theorem named_calls : ∀ (d : Nat) (t : S31) (w0 h0 : Int), Mk d t w0 h0 → 1 ≤ w0 → w0 ≤ 80 → 1 ≤ h0 → h0 ≤ 80 → ∀ (k : Nat), d ≤ k → ∀ (l : List Int), (psR d t).length ≤ l.length → l.length ≤ 1000000 → (∀ n ∈ l, 1 ≤ n ∧ n ≤ 999) →
    ∀ (w : World) (ok okN : Nat → Prop) (A : Option Addr) (c : Nat), Kd.F k31 w ok A t.f3.length t.f3 → t.f3.length ≤ c → ∀ (nb : Nat) (NA : Option Addr) (nc : Nat), w.heap[nb]? = some (.cells #[.slice NA l.length nc] 22 (0, 0)) → l.length ≤ nc → Kd.F (Kd.int .i64) w okN NA l.length l → (∀ j, okN j → j ≠ nb) → (∀ j, ok j → j ≠ nb) →
    Calls Try.prog 81 #[.agg #[.int .i64 t.f0, .int .i64 t.f1, .int .i64 t.f2, .slice A t.f3.length c], .pointer (some ⟨nb, 0, none⟩)] w fun e w' => NamedOut w w' ok okN nb e (namedR k t l) := by
  intro d
  induction d with
  | zero => intro t w0 h0 hm; exact hm.elim
  | succ d ih =>
    intro t w0 h0 hm w1 w8 h1 h8 k hk l hl hlm hlr w ok okN A c hF hc nb NA nc hN hnc hFN hokN hok
    obtain ⟨k, rfl⟩ : ∃ m, k = m + 1 := ⟨k - 1, by omega⟩
    by_cases k0 : t.f0 = 0
    · have h3 : t.f3 = [] := by
        rcases hm with hm | hm
        · exact hm.2.1
        · omega
      rw [psR_leaf d k0] at hl
      cases l with
      | nil => simp at hl
      | cons x l => exact named_leaf t k0 h3 k x l w ok okN A c hF hc nb NA nc hN hnc hlm hFN hokN hok
    · have hu31 := Try.underlying31
      have b0 : (t.f0 == 0) = false := beq_eq_false_iff_ne.mpr k0
      have IH := Aside0.mk ih
      have KIDS := Aside0.mk (hm.kids k0)
      have HBX := Aside0.mk (And.intro w1 (And.intro w8 (And.intro h1 h8)))
      have LEN := Aside0.mk (mk_kids hm w8 h8)
      have HDK := Aside0.mk (Nat.le_of_succ_le_succ hk)
      have HL9 : Aside0 (t.f3.length ≤ 1000000) := ⟨by have := LEN.out; omega⟩
      have HP : Aside0 (0 < t.f3.length) := ⟨by have := KIDS.out.2.2.1; omega⟩
      have HLM := Aside0.mk hlm
      rw [psR_node d k0] at hl
      have MKS : Aside0 (∀ x ∈ t.f3, ∃ w h, Mk d x w h) := ⟨fun x hx => ⟨_, _, (KIDS.out.2.2.2.1 x hx).2.2.2⟩⟩
      have ENO := Aside0.mk (fun i hi => name_enough (k := k) HDK.out t.f3 l MKS.out hlr hl i hi)
      have K0 := Aside0.mk k0
      have HF := Aside0.mk (F_cut hF)
      have HFN := Aside0.mk (Kd.F_bound hFN)
      have HCC := Aside0.mk hc
      have HNC := Aside0.mk hnc
      have HO := Aside0.mk (OnlyB.refl w (Nat.le_of_lt (blk_lt hN)))
      have BN := Aside0.mk hN
      have HN := Aside0.mk (And.intro hokN hok)
      have NLT := Aside0.mk (blk_lt hN)
      clear ih hm k0 w1 w8 h1 h8 hk hl hlm hlr hF hc hN hnc hFN hokN hok
      go_enter Try.func81, Try.ntmps81
      go_upto_region 5 with (first | ((with_reducible refine gate_dst (N := 2) rfl ?_); (try (refine gate_guard (by rfl) ?_; dsimp only)); refine box_event ?hg (N := 2) ?hd (cs := #[.int .i64 t.f0, .int .i64 t.f1, .int .i64 t.f2, .slice A t.f3.length c]) (t := 31) ?hr ?_; (case hd => rfl); (case hg => rfl); (case hr => first | (go_simp; done) | (go_simp; rfl)); intro gT hg wT hbox hb; have BT := Aside0.mk hbox; have GT := Aside0.mk (by rw [hg] : gT = w.heap.size); have GNT := Aside0.mk (by rw [hg]; exact lt1 BN.out : nb ≠ gT); replace BN := Aside0.mk (bb hb BN.out); replace HO := Aside0.mk (OnlyB.below HO.out hb); replace HF := Aside0.mk (Kd.F_below HF.out hb); replace HFN := Aside0.mk (Kd.F_below HFN.out hb); clear hb hbox hg;  obtain ⟨z0, z1, z2, z3, f0, f1, f2, f3⟩ := cz4 BT.out; have gNT := GNT.out; have gTN := Ne.symm GNT.out) | ((with_reducible refine gate_dst (N := 4) rfl ?_); (try (refine gate_guard (by rfl) ?_; dsimp only)); refine box_event ?hg (N := 4) ?hd (cs := #[.int .i64 0, .int .i64 0, .int .i64 0, .slice none 0 0]) (t := 31) ?hr ?_; (case hd => rfl); (case hg => rfl); (case hr => first | (go_simp; done) | (go_simp; rfl)); intro gR hg wR hbox hb; have BR := Aside0.mk hbox; have GR := Aside0.mk (by rw [hg]; exact HO.out.1 : w.heap.size ≤ gR); have NTR := Aside0.mk (by rw [hg]; exact lt1 BT.out : gT ≠ gR); have NRT := Aside0.mk (by rw [hg]; exact gt1 BT.out : gR ≠ gT); have GNR := Aside0.mk (by rw [hg]; exact lt1 BN.out : nb ≠ gR); replace BT := Aside0.mk (bb hb BT.out); replace BN := Aside0.mk (bb hb BN.out); replace HO := Aside0.mk (OnlyB.below HO.out hb); replace HF := Aside0.mk (Kd.F_below HF.out hb); replace HFN := Aside0.mk (Kd.F_below HFN.out hb); have WLE := Aside0.mk (HO.out.1); clear hb hbox hg z0 z1 z2 z3 f0 f1 f2 f3; obtain ⟨z0, z1, z2, z3, f0, f1, f2, f3⟩ := cz4 BT.out; obtain ⟨r0, r1, r2, r3, rf0, rf1, rf2, rf3⟩ := cz4 BR.out; have nTR := NTR.out; have nRT := NRT.out; have gNR := GNR.out; have gRN := Ne.symm GNR.out) | (go_at_call 109; refine (clone_tree _ (fun k => ok k ∧ k < w.heap.size) A c t.f3 HF.out HCC.out HP.out HL9.out (fun k hk => Nat.lt_of_lt_of_le hk.2 WLE.out)).mono ?_; rintro e w2 ⟨g, cap, cells, rfl, HK0, hb⟩; have HKR := Aside0.mk HK0; have GG := Aside0.mk HK0.low; have GTG := Aside0.mk (Nat.ne_of_lt (Nat.lt_of_lt_of_le (blk_lt BT.out) GG.out) : gT ≠ g); have GRL := Aside0.mk (Nat.lt_of_lt_of_le (blk_lt BR.out) GG.out : gR < g); have GNG := Aside0.mk (Nat.ne_of_lt (Nat.lt_of_lt_of_le (blk_lt BN.out) GG.out) : nb ≠ g); replace BT := Aside0.mk (bb hb BT.out); replace BR := Aside0.mk (bb hb BR.out); replace BN := Aside0.mk (bb hb BN.out); replace HFN := Aside0.mk (Kd.F_below HFN.out hb); replace HO := Aside0.mk (OnlyB.below HO.out hb); clear hb HK0 z0 z1 z2 z3 f0 f1 f2 f3 r0 r1 r2 r3 rf0 rf1 rf2 rf3; obtain ⟨z0, z1, z2, z3, f0, f1, f2, f3⟩ := cz4 BT.out))
      have hBT := blk_put BT.out 3 (.slice (some ⟨g, 0, none⟩) t.f3.length cap) rfl
      have hBR := blk_far (p := ⟨gT, 3, none⟩) BR.out NRT.out (.slice (some ⟨g, 0, none⟩) t.f3.length cap)
      have hBN := blk_far (p := ⟨gT, 3, none⟩) BN.out GNT.out (.slice (some ⟨g, 0, none⟩) t.f3.length cap)
      have hHK := HKR.out.far (p := ⟨gT, 3, none⟩) GTG.out (fun k hk => by have := GT.out; have := hk.2; show k ≠ gT; omega) (.slice (some ⟨g, 0, none⟩) t.f3.length cap)
      have hHO := HO.out.new (p := ⟨gT, 3, none⟩) (.inl (Nat.le_of_eq GT.out.symm)) (.slice (some ⟨g, 0, none⟩) t.f3.length cap)
      have hHN := Kd.F_far (p := ⟨gT, 3, none⟩) HFN.out (fun k hk => by have := GT.out; have := hk.2; show k ≠ gT; omega) (.slice (some ⟨g, 0, none⟩) t.f3.length cap)
      clear z0 z1 z2 z3 f0 f1 f2 f3 BT BR BN HKR HO HFN HF
      generalize hAD : (⟨g, 0, none⟩ : Addr) = ad at hBT hBR hBN hHK hHO hHN ⊢
      have AD : RowAd ad g := ⟨hAD.symm⟩
      generalize hw3 : w2.setCell ⟨gT, 3, none⟩ (.slice (some ad) t.f3.length cap) = w3 at hBT hBR hBN hHK hHO hHN ⊢
      have APG : Aside0 (∀ j, (ok j ∧ j < w.heap.size ∨ g < j) → j ≠ g) := ⟨fun j hj => by have := GG.out; have := WLE.out; omega⟩
      have GNL : Aside0 (nb < g) := ⟨by have := GG.out; have := WLE.out; have := NLT.out; omega⟩
      have BT := Aside0.mk hBT
      have BR := Aside0.mk hBR
      have BN := Aside0.mk hBN
      have HKR := Aside0.mk (hHK.mono (ok' := fun j => ok j ∧ j < w.heap.size ∨ g < j) (fun j hj => .inl hj) APG.out)
      have HO := Aside0.mk hHO
      have HFN := Aside0.mk hHN
      clear hw3 hAD hBT hBR hBN hHK hHO hHN
      obtain ⟨z0, z1, z2, z3, f0, f1, f2, f3⟩ := cz4 BT.out
      go_wp2
      go_loopg [30] t.f3.length (fun kq v30 w' => ∃ (i : Nat) (cells' : Array Value) (NA' : Option Addr) (nc' : Nat), v30 = .int .i64 (i : Int) ∧ Aside0 (i + kq = t.f3.length) ∧ Aside0 (w'.heap[gT]? = some (.cells #[.int .i64 t.f0, .int .i64 t.f1, .int .i64 t.f2, .slice (some ad) t.f3.length cap] 31 (0, 0))) ∧ Aside0 (w'.heap[gR]? = some (.cells #[.int .i64 0, .int .i64 0, .int .i64 0, .slice none 0 0] 31 (0, 0))) ∧ Aside0 (w'.heap[nb]? = some (.cells #[.slice NA' (nameL (namedR k) t.f3 l i).length nc'] 22 (0, 0))) ∧ Aside0 ((nameL (namedR k) t.f3 l i).length ≤ nc') ∧ Aside0 (Kd.F (Kd.int .i64) w' (fun j => okN j ∧ j < w.heap.size) NA' (nameL (namedR k) t.f3 l i).length (nameL (namedR k) t.f3 l i)) ∧ Aside0 (OwnAt w' (fun j => ok j ∧ j < w.heap.size ∨ g < j) wR.heap.size g cap cells' (nameG (namedR k) t.f3 l i)) ∧ Aside0 (OnlyB w w' nb))
      case atStart => exact ⟨0, cells, NA, nc, rfl, ⟨by omega⟩, ⟨BT.out⟩, ⟨BR.out⟩, ⟨BN.out⟩, ⟨HNC.out⟩, ⟨HFN.out⟩, ⟨HKR.out⟩, ⟨HO.out⟩⟩
      case round =>
        clear z0 z1 z2 z3 f0 f1 f2 f3 BT BR BN HKR HO HFN HNC
        obtain ⟨i, cells3, NA3, nc3, rfl, HI, BT, BR, BN, HNC, HFN, HKR, HO⟩ := hrel
        have hi := HI.out
        obtain ⟨z0, z1, z2, z3, f0, f1, f2, f3⟩ := cz4 BT.out
        cases gk with
        | succ k1 =>
          have hii : i < t.f3.length := by omega
          have c4 : decide ((i : Int) < (t.f3.length : Int)) = true := decide_eq_true (by omega)
          have p22 : (0 ≤ (i : Int)) = True := eq_true (by omega)
          have q22 : ((i : Int) < (t.f3.length : Int)) = True := eq_true (by omega)
          obtain ⟨xA, xc, hxv, x0, x1, x2, x3⟩ := HKR.out.kids.got (j := i) (nameG_at _ t.f3 l i hii) AD
          obtain ⟨xA', xc', hxe, hxl, hxF⟩ := hxv
          simp only [Value.agg.injEq, Array.mk.injEq, List.cons.injEq, Value.slice.injEq, and_true, true_and] at hxe
          obtain ⟨rfl, rfl⟩ := hxe
          have HXF := Aside0.mk (F_cut hxF)
          have HL3 := Aside0.mk hxl
          have ENI := Aside0.mk (ENO.out i hii)
          have YM := Aside0.mk (KIDS.out.2.2.2.1 _ (List.getElem_mem hii))
          clear hxl hxF hi
          go_upto_region 8 with (first | ((with_reducible refine gate_dst (N := 6) rfl ?_); (try (refine gate_guard (by rfl) ?_; dsimp only)); refine box_event ?hg (N := 6) ?hd (cs := #[.int .i64 0, .int .i64 0, .int .i64 0, .slice none 0 0]) (t := 31) ?hr ?_; (case hd => rfl); (case hg => rfl); (case hr => first | (go_simp; done) | (go_simp; rfl)); intro gK hg wK hbox hb; have BK := Aside0.mk hbox; have GE := Aside0.mk hg; have GK := Aside0.mk (by rw [hg]; exact HO.out.1 : w.heap.size ≤ gK); have NTK := Aside0.mk (by rw [hg]; exact lt1 BT.out : gT ≠ gK); have NKT := Aside0.mk (by rw [hg]; exact gt1 BT.out : gK ≠ gT); have NRK := Aside0.mk (by rw [hg]; exact lt1 BR.out : gR ≠ gK); have NNK := Aside0.mk (by rw [hg]; exact lt1 BN.out : nb ≠ gK); have NGK := Aside0.mk (by rw [hg]; exact lt1 HKR.out.kids.blk : g ≠ gK); replace BT := Aside0.mk (bb hb BT.out); replace BR := Aside0.mk (bb hb BR.out); replace BN := Aside0.mk (bb hb BN.out); have HOC := Aside0.mk (HKR.out.cut.below hb); replace HXF := Aside0.mk (Kd.F_below HXF.out hb); replace HFN := Aside0.mk (Kd.F_below (Kd.F_bound HFN.out) hb); replace HO := Aside0.mk (OnlyB.below HO.out hb); replace x0 := (hb.cell (World.block_lt_of_cell? _ _ x0)).trans x0; replace x1 := (hb.cell (World.block_lt_of_cell? _ _ x1)).trans x1; replace x2 := (hb.cell (World.block_lt_of_cell? _ _ x2)).trans x2; replace x3 := (hb.cell (World.block_lt_of_cell? _ _ x3)).trans x3; clear hb hbox hg; clear z0 z1 z2 z3 f0 f1 f2 f3; obtain ⟨z0, z1, z2, z3, f0, f1, f2, f3⟩ := cz4 BT.out; have nTK := NTK.out; have nKT := NKT.out; have nGK := NGK.out; obtain ⟨y0, y1, y2, y3, e0, e1, e2, e3⟩ := cz4 BK.out))
          have APK : ∀ j, ((ok j ∧ j < w.heap.size ∨ g < j) ∧ j < wr.heap.size) → j ≠ gK := fun j hj => by have := GE.out; have := hj.2; omega
          have hBT := far4 (v0 := .int .i64 t.f3[i].f0) (v1 := .int .i64 t.f3[i].f1) (v2 := .int .i64 t.f3[i].f2) (v3 := .slice xA t.f3[i].f3.length xc) NTK.out BT.out
          have hBR := far4 (v0 := .int .i64 t.f3[i].f0) (v1 := .int .i64 t.f3[i].f1) (v2 := .int .i64 t.f3[i].f2) (v3 := .slice xA t.f3[i].f3.length xc) NRK.out BR.out
          have hBN := far4 (v0 := .int .i64 t.f3[i].f0) (v1 := .int .i64 t.f3[i].f1) (v2 := .int .i64 t.f3[i].f2) (v3 := .slice xA t.f3[i].f3.length xc) NNK.out BN.out
          have hBK := put4 (v0 := .int .i64 t.f3[i].f0) (v1 := .int .i64 t.f3[i].f1) (v2 := .int .i64 t.f3[i].f2) (v3 := .slice xA t.f3[i].f3.length xc) BK.out
          have hHC := OwnAt.far4 (v0 := .int .i64 t.f3[i].f0) (v1 := .int .i64 t.f3[i].f1) (v2 := .int .i64 t.f3[i].f2) (v3 := .slice xA t.f3[i].f3.length xc) HOC.out (Ne.symm NGK.out) APK
          have hXF := F_far4 (v0 := .int .i64 t.f3[i].f0) (v1 := .int .i64 t.f3[i].f1) (v2 := .int .i64 t.f3[i].f2) (v3 := .slice xA t.f3[i].f3.length xc) HXF.out APK
          have hFN := Kd.F_far (p := ⟨gK, 3, none⟩) (Kd.F_far (p := ⟨gK, 2, none⟩) (Kd.F_far (p := ⟨gK, 1, none⟩) (Kd.F_far (p := ⟨gK, 0, none⟩) HFN.out (fun j hj => by have := GE.out; have := hj.2; show j ≠ gK; omega) (.int .i64 t.f3[i].f0)) (fun j hj => by have := GE.out; have := hj.2; show j ≠ gK; omega) (.int .i64 t.f3[i].f1)) (fun j hj => by have := GE.out; have := hj.2; show j ≠ gK; omega) (.int .i64 t.f3[i].f2)) (fun j hj => by have := GE.out; have := hj.2; show j ≠ gK; omega) (.slice xA t.f3[i].f3.length xc)
          have hHO := (((HO.out.new (p := ⟨gK, 0, none⟩) (.inl GK.out) (.int .i64 t.f3[i].f0)).new (p := ⟨gK, 1, none⟩) (.inl GK.out) (.int .i64 t.f3[i].f1)).new (p := ⟨gK, 2, none⟩) (.inl GK.out) (.int .i64 t.f3[i].f2)).new (p := ⟨gK, 3, none⟩) (.inl GK.out) (.slice xA t.f3[i].f3.length xc)
          generalize hw8 : ((((wK.setCell ⟨gK, 0, none⟩ (.int .i64 t.f3[i].f0)).setCell ⟨gK, 1, none⟩ (.int .i64 t.f3[i].f1)).setCell ⟨gK, 2, none⟩ (.int .i64 t.f3[i].f2)).setCell ⟨gK, 3, none⟩ (.slice xA t.f3[i].f3.length xc)) = w8 at hBT hBR hBN hBK hHC hXF hFN hHO ⊢
          clear hw8 z0 z1 z2 z3 f0 f1 f2 f3 x0 x1 x2 x3 y0 y1 y2 y3 e0 e1 e2 e3 BT BR BN BK HOC HXF HFN HO
          have BT := Aside0.mk hBT
          have BR := Aside0.mk hBR
          have BN := Aside0.mk hBN
          have BK := Aside0.mk hBK
          have HOC := Aside0.mk hHC
          have HXF := Aside0.mk hXF
          have HFN := Aside0.mk hFN
          have HO := Aside0.mk hHO
          clear hBT hBR hBN hBK hHC hXF hFN hHO
          obtain ⟨z0, z1, z2, z3, f0, f1, f2, f3⟩ := cz4 BT.out
          obtain ⟨y0, y1, y2, y3, e0, e1, e2, e3⟩ := cz4 BK.out
          have AT := AD.at i
          have nTA : gT ≠ g := GTG.out
          have nRA : gR ≠ g := Nat.ne_of_lt GRL.out
          have nKA : gK ≠ g := Ne.symm NGK.out
          have KB := kid_box (kind := t.f0) YM.out.2.1 YM.out.2.2.1 HBX.out.1 HBX.out.2.1 HBX.out.2.2.1 HBX.out.2.2.2
          have KBX := Aside0.mk KB
          clear KB
          have NKN : Aside0 (gK ≠ nb) := ⟨Ne.symm NNK.out⟩
          have GTNB : Aside0 (gT ≠ nb) := ⟨Ne.symm GNT.out⟩
          have GNB : Aside0 (g ≠ nb) := ⟨Nat.ne_of_gt GNL.out⟩
          have OKN : Aside0 (∀ j, ((ok j ∧ j < w.heap.size ∨ g < j) ∧ j < wr.heap.size) → j ≠ nb) := ⟨fun j hj => hj.1.elim (fun h => HN.out.2 j h.1) (fun h => by have := GNL.out; omega)⟩
          have xf0 := HOC.out.kids.frozen (4 * i)
          have xf1 := HOC.out.kids.frozen (4 * i + 1)
          have xf2 := HOC.out.kids.frozen (4 * i + 2)
          have xf3 := HOC.out.kids.frozen (4 * i + 3)
          obtain ⟨x0, x1, x2, _, _, x3, _, _⟩ := HOC.out.kids.cell (j := i) (nameG_at _ t.f3 l i hii)
          go_region_held3 (fun w' => w'.cell? ⟨gT, 3, none⟩ = some (.slice (some ad) t.f3.length cap) ∧ w'.cell? ⟨gK, 0, none⟩ = some (.int .i64 t.f3[i].f0) ∧ w'.cell? ⟨gK, 1, none⟩ = some (.int .i64 t.f3[i].f1) ∧ w'.cell? ⟨gK, 2, none⟩ = some (.int .i64 t.f3[i].f2) ∧ w'.cell? ⟨gK, 3, none⟩ = some (.slice xA t.f3[i].f3.length xc)) (first | exact ⟨z3, y0, y1, y2, y3⟩ | exact ⟨z3', y0', y1', y2', y3'⟩ | exact ⟨cell_farP (p := ⟨g, 4 * i, none⟩) nTA z3', cell_farP (p := ⟨g, 4 * i, none⟩) nKA y0', cell_farP (p := ⟨g, 4 * i, none⟩) nKA y1', cell_farP (p := ⟨g, 4 * i, none⟩) nKA y2', cell_farP (p := ⟨g, 4 * i, none⟩) nKA y3'⟩) (first | (go_at_call 81; refine (IH.out t.f3[i] _ _ YM.out.2.2.2 KBX.out.1 KBX.out.2.1 KBX.out.2.2.1 KBX.out.2.2.2 k HDK.out (nameL (namedR k) t.f3 l i) ENI.out.1 (Nat.le_trans ENI.out.2.1 HLM.out) ENI.out.2.2 _ _ _ xA xc (Kd.F_below HXF.out (below_drew (Below.refl _ _))) HL3.out nb NA3 nc3 (blk_drew BN.out) HNC.out (Kd.F_drew HFN.out) (fun j hj => HN.out.1 j hj.1.1) OKN.out).mono ?_; rintro e w81 ⟨v, NA2, nc2, rfl, ⟨A5, c5, rfl, h5, hF5⟩, hbn, hln2, hFN2, hO⟩; have z3' := only_cell hO GTNB.out z3; have y0' := only_cell hO NKN.out y0; have y1' := only_cell hO NKN.out y1; have y2' := only_cell hO NKN.out y2; have y3' := only_cell hO NKN.out y3; have HOD := Aside0.mk (OwnAt.only (HOC.out.below (below_drew (Below.refl _ _))) hO GNB.out OKN.out); have xg0 := HOD.out.kids.frozen (4 * i); have xg1 := HOD.out.kids.frozen (4 * i + 1); have xg2 := HOD.out.kids.frozen (4 * i + 2); have xg3 := HOD.out.kids.frozen (4 * i + 3); have x0' := only_cell hO GNB.out x0; have x1' := only_cell hO GNB.out x1; have x2' := only_cell hO GNB.out x2; have x3' := only_cell hO GNB.out x3))
          have hgl : g < w8.heap.size := blk_lt HOC.out.kids.blk
          have hF6 : Kd.F k31 w81 (fun j => ok j ∧ j < w.heap.size ∨ g < j) A5 ((namedR k t.f3[i] (nameL (namedR k) t.f3 l i)).1).f3.length ((namedR k t.f3[i] (nameL (namedR k) t.f3 l i)).1).f3 := Kd.F_mono hF5 (fun j hj => hj.elim (fun h => h.1) (fun h => .inr (Nat.lt_of_lt_of_le hgl h)))
          obtain ⟨cells4, hO4⟩ := (HOD.out.mono (fun j hj => hj.1) APG.out).putL (j := i) (by rw [nameG_len]; exact hii) ((namedR k t.f3[i] (nameL (namedR k) t.f3 l i)).1) h5 hF6
          rw [nameG_step _ t.f3 l i hii] at hO4
          have HO4 := Aside0.mk hO4
          have HO5 := Aside0.mk (HO.out.trans ((OnlyB.drew w8 hO.lt).trans hO))
          have BT4 := Aside0.mk (only_blk hO GTNB.out (blk_drew BT.out))
          have BR4 := Aside0.mk (only_blk hO (Ne.symm GNR.out) (blk_drew BR.out))
          have BN4 := Aside0.mk hbn
          have HN4 := Aside0.mk hln2
          have HFN4 := Aside0.mk (Kd.F_mono hFN2 (fun j hj => hj.1))
          have GWG : Aside0 (w.heap.size ≤ g) := ⟨by have := GG.out; have := WLE.out; omega⟩
          clear hO4 hF6 hF5 hbn hln2 hFN2 hO
          go_wp2
          go_roundg k1
          case measure => omega
          case rel =>
            refine ⟨i + 1, cells4, NA2, nc2, ?_, ⟨by have := HI.out; omega⟩, ⟨blk_farP (p := ⟨g, 4 * i, none⟩) BT4.out nTA⟩, ⟨blk_farP (p := ⟨g, 4 * i, none⟩) BR4.out nRA⟩, ⟨?_⟩, ⟨?_⟩, ⟨?_⟩, ⟨HO4.out⟩, ⟨?_⟩⟩
            · first | rfl | (congr 1; first | omega | (have := LEN.out; unfold wrap64; omega))
            · rw [nameL_step _ t.f3 l i hii]; exact blk_farP (p := ⟨g, 4 * i, none⟩) BN4.out (Ne.symm GNB.out)
            · rw [nameL_step _ t.f3 l i hii]; exact HN4.out
            · rw [nameL_step _ t.f3 l i hii]
              exact Kd.F_far (p := ⟨g, 4 * i + 3, none⟩) (Kd.F_far (p := ⟨g, 4 * i + 2, none⟩) (Kd.F_far (p := ⟨g, 4 * i + 1, none⟩) (Kd.F_far (p := ⟨g, 4 * i, none⟩) HFN4.out (fun j hj => by have := GWG.out; have := hj.2; show j ≠ g; omega) _) (fun j hj => by have := GWG.out; have := hj.2; show j ≠ g; omega) _) (fun j hj => by have := GWG.out; have := hj.2; show j ≠ g; omega) _) (fun j hj => by have := GWG.out; have := hj.2; show j ≠ g; omega) _
            · exact (((HO5.out.new (p := ⟨g, 4 * i, none⟩) (.inl GWG.out) _).new (p := ⟨g, 4 * i + 1, none⟩) (.inl GWG.out) _).new (p := ⟨g, 4 * i + 2, none⟩) (.inl GWG.out) _).new (p := ⟨g, 4 * i + 3, none⟩) (.inl GWG.out) _
        | zero =>
          have hin : i = t.f3.length := by omega
          have c4 : decide ((i : Int) < (t.f3.length : Int)) = false := decide_eq_false (by omega)
          subst hin
          have hO := HKR.out
          rw [nameG_end] at hO
          have HOE := Aside0.mk hO
          have FR : Aside0 (namedR (k + 1) t l = (⟨t.f0, t.f1, t.f2, (nameK (namedR k) t.f3 l).1⟩, nameL (namedR k) t.f3 l t.f3.length)) := ⟨by rw [namedR, if_neg K0.out, nameL_end]⟩
          clear hO hi HI
          obtain ⟨r0, r1, r2, r3, rf0, rf1, rf2, rf3⟩ := cz4 BR.out
          go_wp2_with (first | ((with_reducible refine gate_store (t := 31) (p := 4) rfl ?_); refine store_event (t := 31) (p := 4) (v := ?vo) (w1 := ((((wr.setCell ⟨gR, 0, none⟩ (.int .i64 t.f0)).setCell ⟨gR, 1, none⟩ (.int .i64 t.f1)).setCell ⟨gR, 2, none⟩ (.int .i64 t.f2)).setCell ⟨gR, 3, none⟩ (.slice (some ad) t.f3.length cap))) ?hg ?ho ?hn ?hr ?_; (case ho => rfl); (case hg => rfl); (case hn => rfl); (case hr => first | (go_simp; done) | (go_simp; rfl)); intro w9 hw; have N1 : Aside0 (w9.heap[gR]? = some (.cells #[.int .i64 t.f0, .int .i64 t.f1, .int .i64 t.f2, .slice (some ad) t.f3.length cap] 31 (0, 0))) := ⟨by rw [hw]; exact put4 BR.out⟩; have N2 : Aside0 (OnlyB w w9 nb) := ⟨by rw [hw]; exact (((HO.out.new (p := ⟨gR, 0, none⟩) (.inl GR.out) _).new (p := ⟨gR, 1, none⟩) (.inl GR.out) _).new (p := ⟨gR, 2, none⟩) (.inl GR.out) _).new (p := ⟨gR, 3, none⟩) (.inl GR.out) _⟩; have N3 := Aside0.mk (show OwnAt w9 (fun j => ok j ∧ j < w.heap.size ∨ g < j) wR.heap.size g cap cells3 (nameK (namedR k) t.f3 l).1 from by rw [hw]; exact OwnAt.far4 HOE.out (Nat.ne_of_lt GRL.out) (fun j hj => by have := GR.out; have := GRL.out; omega)); have N4 := Aside0.mk (show w9.heap[nb]? = some (.cells #[.slice NA3 (nameL (namedR k) t.f3 l t.f3.length).length nc3] 22 (0, 0)) from by rw [hw]; exact far4 GNR.out BN.out); have N5 := Aside0.mk (show Kd.F (Kd.int .i64) w9 (fun j => okN j ∧ j < w.heap.size) NA3 (nameL (namedR k) t.f3 l t.f3.length).length (nameL (namedR k) t.f3 l t.f3.length) from by rw [hw]; exact Kd.F_far (p := ⟨gR, 3, none⟩) (Kd.F_far (p := ⟨gR, 2, none⟩) (Kd.F_far (p := ⟨gR, 1, none⟩) (Kd.F_far (p := ⟨gR, 0, none⟩) HFN.out (fun j hj => by have := GR.out; have := hj.2; show j ≠ gR; omega) _) (fun j hj => by have := GR.out; have := hj.2; show j ≠ gR; omega) _) (fun j hj => by have := GR.out; have := hj.2; show j ≠ gR; omega) _) (fun j hj => by have := GR.out; have := hj.2; show j ≠ gR; omega) _); clear hw; clear z0 z1 z2 z3 f0 f1 f2 f3 r0 r1 r2 r3 rf0 rf1 rf2 rf3))
          obtain ⟨s0, s1, s2, s3, _, _, _, _⟩ := cz4 N1.out
          refine bodyPost_ret (v := .agg #[.int .i64 t.f0, .int .i64 t.f1, .int .i64 t.f2, .slice (some ad) t.f3.length cap]) (by simp [results, Try.results81, go_sem, s0, s1, s2, s3]) rfl ?_
          rw [FR.out]
          have hml : (nameK (namedR k) t.f3 l).1.length = t.f3.length := nameK_len _ _ _
          have hT := N3.out.kids.tree (cap := cap) N3.out.fit t.f0 t.f1 t.f2
          rw [hml, ← AD.eq] at hT
          refine ⟨_, _, _, rfl, hT.mono (fun j hj => ?_), N4.out, HNC.out, Kd.F_mono N5.out (fun j hj => hj.1), N2.out⟩
          have := GG.out
          have := WLE.out
          rcases hj with (hj | hj) | hj
          · exact .inl hj.1
          · exact .inr (by omega)
          · exact .inr (by omega)
end Go.Proofs.Ytplngfammfdemaa
end
