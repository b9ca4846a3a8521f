-- Copies of the texts YtplngfammfdemaaUIdx, YtplngfammfdemaaUHas, YtplngfammfdemaaULeast, YtplngfammfdemaaMS2 with what this claim does not reach left out (prune.py, a program of this project).
import Derived.Test.YtplngfammfdemaaZyGIdx
import Derived.Test.YtplngfammfdemaaZyGHas
import Derived.Test.YtplngfammfdemaaZyUFitW
import Derived.Test.YtplngfammfdemaaZyMS1
import Derived.Test.YtplngfammfdemaaZyGShort
import Derived.Test.YtplngfammfdemaaZyMS0
section
namespace Go.Proofs.Ytplngfammfdemaa
open Go.RowKit Go.Proofs.YtplngfammfdemaaW.PrintWords Go.Proofs.YtplngfammfdemaaW.PrintLast Go.Proofs.YtplngfammfdemaaW.PrintMore Q
set_option linter.unusedVariables false
set_option linter.unusedSimpArgs false
/-- Wherever all that lay in w lies unturned, the function value tells p of the row's trees. -/
def PredT (g : FuncId) (lb : Array Value) (p : S31 → Bool) (l : List S31) (w : World) : Prop := ∀ W, Below w.heap.size w W → ∀ x ∈ l, ∀ A c, Kd.C k31 W A x.f3.length x.f3 → Calls Try.prog g (#[treeV x A c] ++ lb) W fun e W' => e = .returned (.bool (p x)) ∧ Below W.heap.size W W'
def idxT (p : S31 → Bool) (l : List S31) : Int := match l.findIdx? p with | some i => (i : Int) | none => -1
theorem rdT (l : List S31) (j : Nat) (hj : j < l.length) : rd_T31 l (j : Int) = l[j] := by
  unfold rd_T31; rw [Int.toNat_natCast, List.getD_eq_getElem?_getD, List.getElem?_eq_getElem hj]; rfl
theorem idxT_at {p : S31 → Bool} {l : List S31} {i : Nat} (hi : i < l.length) (h : ∀ j : Nat, j < i → p (rd_T31 l j) = false) (hp : p (rd_T31 l i) = true) : idxT p l = i := by
  have e := rdT l
  have : l.findIdx? p = some i := by
    rw [List.findIdx?_eq_some_iff_getElem]
    refine ⟨hi, by rw [← e i hi]; exact hp, fun j hj => ?_⟩
    rw [← e j (by omega), h j hj]; simp
  unfold idxT
  rw [this]
theorem idxT_none {p : S31 → Bool} {l : List S31} (h : ∀ j : Nat, j < l.length → p (rd_T31 l j) = false) : idxT p l = -1 := by
  have e := rdT l
  have : l.findIdx? p = none := by
    rw [List.findIdx?_eq_none_iff]
    intro x hx
    obtain ⟨j, hj, rfl⟩ := List.getElem_of_mem hx
    rw [← e j hj]; exact h j hj
  unfold idxT
  rw [this]
set_option maxHeartbeats 8000000 in
set_option maxRecDepth 100000 in
theorem index_trees (g : FuncId) (fn : Func) (lb : Array Value) (hf : Try.prog.funcs[g]? = some fn) (hname : (fn.name == "runtime.NumGoroutine") = false) (hbd : fn.body.isSome = true) (p : S31 → Bool) (A0 : Option Addr) (c0 : Nat) (l0 : List S31) (w : World) (hr0 : Kd.C k31 w A0 l0.length l0) (hc0 : l0.length ≤ c0) (hlen : l0.length < 1000000000000000000) (hp : PredT g lb p l0 w) (r : Int) (hr : idxT p l0 = r) :
    Calls Try.prog 110 #[.slice A0 l0.length c0, .func (.func g) #[] lb] w fun e w' => e = .returned (.int .i64 r) ∧ Below w.heap.size w w' := by
  have hu31 := Try.underlying31
  have HR0 := Aside0.mk hr0
  have HC0 := Aside0.mk hc0
  have HP := Aside0.mk hp
  have HL := Aside0.mk hlen
  clear hr0 hc0 hp hlen
  go_enter Try.func110, Try.ntmps110
  go_wp2
  go_loopg [8] l0.length (fun kq v8 w' => ∃ i : Nat, v8 = .int .i64 (i : Int) ∧ Aside0 (i + kq = l0.length) ∧ Aside0 (∀ j : Nat, j < i → p (rd_T31 l0 j) = false) ∧ Aside0 (Below w.heap.size w w'))
  case atStart => exact ⟨0, rfl, ⟨by omega⟩, ⟨fun j hj => absurd hj (by omega)⟩, ⟨Below.refl _ _⟩⟩
  case round =>
    obtain ⟨i, rfl, HK, HA, HB⟩ := hrel
    have hk := HK.out
    have hl := HL.out
    cases gk with
    | zero =>
      have c4b0 : decide ((i : Int) < (l0.length : Int)) = false := decide_eq_false (by omega)
      rw [idxT_none (fun j hj => HA.out j (by omega))] at hr
      subst hr
      go_wp2
      go_ret
      exact ⟨rfl, HB.out⟩
    | succ k1 =>
      have c4b0 : decide ((i : Int) < (l0.length : Int)) = true := decide_eq_true (by omega)
      have p228 : 0 ≤ (i : Int) := by omega
      have q228 : (i : Int) < (l0.length : Int) := by omega
      obtain ⟨ad228, A3, c3, e228, hx228_0, hx228_1, hx228_2, hx228_3, hx228_4, hx228_5⟩ := at_T31 HR0.out i p228 q228
      cases e228
      rw [Int.toNat_natCast] at hx228_0 hx228_1 hx228_2 hx228_3
      replace hx228_0 := (HB.out.cell (World.block_lt_of_cell? w _ hx228_0)).trans hx228_0
      replace hx228_1 := (HB.out.cell (World.block_lt_of_cell? w _ hx228_1)).trans hx228_1
      replace hx228_2 := (HB.out.cell (World.block_lt_of_cell? w _ hx228_2)).trans hx228_2
      replace hx228_3 := (HB.out.cell (World.block_lt_of_cell? w _ hx228_3)).trans hx228_3
      have HX := Aside0.mk (HP.out _ HB.out (rd_T31 l0 (i : Int)) (by rw [rdT l0 i (by omega)]; exact List.getElem_mem _) A3 c3 (Kd.C_below hx228_5 HB.out))
      clear hx228_4 hx228_5
      replace p228 := eq_true p228
      replace q228 := eq_true q228
      cases hpx : p (rd_T31 l0 (i : Int)) with
      | true =>
        rw [idxT_at (by omega) HA.out hpx] at hr
        subst hr
        go_wp2_with (first | (refine goesFR_ (some 16) rfl rfl hf hname hbd #[treeV (rd_T31 l0 (i : Int)) A3 c3] rfl rfl (by (try simp only [List.map_toArray, List.map_cons, List.map_nil]); first | done | rfl) ?_; refine HX.out.mono ?_; rintro e w1 ⟨rfl, hb⟩; rw [hpx]; refine ⟨_, rfl, ?_⟩; replace HB := Aside0.mk (below_step HB.out hb); clear hb))
        go_ret
        exact ⟨rfl, HB.out⟩
      | false =>
        go_wp2_with (first | (refine goesFR_ (some 16) rfl rfl hf hname hbd #[treeV (rd_T31 l0 (i : Int)) A3 c3] rfl rfl (by (try simp only [List.map_toArray, List.map_cons, List.map_nil]); first | done | rfl) ?_; refine HX.out.mono ?_; rintro e w1 ⟨rfl, hb⟩; rw [hpx]; refine ⟨_, rfl, ?_⟩; replace HB := Aside0.mk (below_step HB.out hb); clear hb))
        go_roundg k1
        case measure => omega
        case rel =>
          refine ⟨i + 1, ?_, ⟨by omega⟩, ⟨fun j hj => ?_⟩, ⟨HB.out⟩⟩
          · first
            | rfl
            | (congr 1; first | omega | (unfold wrap64; omega))
          · by_cases hji : j = i
            · rw [hji]; exact hpx
            · exact HA.out j (by omega)
end Go.Proofs.Ytplngfammfdemaa
end
section
namespace Go.Proofs.Ytplngfammfdemaa
open Go.RowKit Go.Proofs.YtplngfammfdemaaW.PrintWords Go.Proofs.YtplngfammfdemaaW.PrintLast Go.Proofs.YtplngfammfdemaaW.PrintMore Q
set_option linter.unusedVariables false
set_option linter.unusedSimpArgs false
theorem has_mk (w : World) (t : S31) (A : Option Addr) (c : Nat) (p : Int) {d : Nat} {w0 h0 : Int} (hm : Mk d t w0 h0) (w1 : 1 ≤ w0) (w8 : w0 ≤ 80) (h1 : 1 ≤ h0) (h8 : h0 ≤ 80) (hd : d ≤ 20) (hC : Kd.C k31 w A t.f3.length t.f3) :
 Calls Try.prog 74 #[.agg #[.int .i64 t.f0, .int .i64 t.f1, .int .i64 t.f2, .slice A t.f3.length c], .int .i64 p] w fun e w' => e = .returned (.bool (hasA p t)) ∧ Below w.heap.size w w' := by
 have h := has_any w t A c 20 p hC (psR d t) (panes_mk d t w0 h0 hm w1 w8 h1 h8 20 hd)
 unfold hasA
 rw [psA_of hm hd]
 exact h
/-- The kids of a row, each made right of some size. -/
def MkAll (l : List S31) : Prop := ∀ x ∈ l, ∃ d w0 h0, Mk d x w0 h0 ∧ 1 ≤ w0 ∧ w0 ≤ 80 ∧ 1 ≤ h0 ∧ h0 ≤ 80 ∧ d ≤ 20
set_option maxHeartbeats 4000000 in
set_option maxRecDepth 100000 in
theorem pred111 (w : World) (gb : Nat) (pane : Int) (l : List S31) (hb0 : w.heap[gb]? = some (.cells #[.int .i64 pane] 3 (0, 0))) (hl : MkAll l) : PredT 111 #[.pointer (some ⟨gb, 0, none⟩)] (hasA pane) l w := by
 intro W hW x hx A c hC
 obtain ⟨d, w0, h0, hm, q1, q2, q3, q4, hd⟩ := hl x hx
 have y00 : W.cell? ⟨gb, 0, none⟩ = some (.int .i64 pane) := (blk_cell (blk_below hb0 hW) 0).trans rfl
 have hu31 := Try.underlying31
 have HM := zM hm
 have HBB := zM (Below.refl W.heap.size W)
 clear hb0 hl hW hm hx
 unfold treeV
 go_enter Try.func111, Try.ntmps111
 go_wp2_with (first | ((with_reducible refine gate_dst (N := 2) rfl ?_); (try (refine gate_guard (by rfl) ?_; dsimp only)); refine box_event ?hg (N := 2) ?hd (cs := #[.int .i64 x.f0, .int .i64 x.f1, .int .i64 x.f2, .slice A x.f3.length c]) (t := 31) ?hr ?_; (case hd => rfl); (case hg => rfl); (case hr => first | (go_simp; done) | (go_simp; rfl)); intro gX hg wX hbox hb; have BX := zM hbox; replace HBB := zM (below_step HBB.out hb); have HX := zM (Kd.C_below hC hb); have y0 := (hb.cell (zL _ _ y00)).trans y00; clear hb hbox hg; obtain ⟨z0, z1, z2, z3, f0, f1, f2, f3⟩ := cz4 BX.out) | (go_at_call 74; refine (has_mk _ x A c pane HM.out q1 q2 q3 q4 hd HX.out).mono ?_; rintro e w2 ⟨rfl, hb⟩; replace HBB := zM (below_step HBB.out hb); clear hb))
 go_ret
 exact ⟨rfl, HBB.out⟩
/-- IndexFunc's answer: the first kid that has the pane. -/
theorem idx_kid (p : Int) (xs : List S31) (hx : ∃ x ∈ xs, hasA p x = true) : idxT (hasA p) xs = (xs.findIdx (hasA p) : Nat) ∧ xs.findIdx (hasA p) < xs.length := by
 have hlt : xs.findIdx (hasA p) < xs.length := List.findIdx_lt_length.2 hx
 refine ⟨idxT_at hlt (fun j hj => ?_) ?_, hlt⟩
 ·rw [rdT xs j (by omega)]
  simpa using List.not_of_lt_findIdx hj
 ·rw [rdT xs _ hlt]
  exact List.findIdx_getElem (w := hlt)
end Go.Proofs.Ytplngfammfdemaa
end
section
namespace Go.Proofs.Ytplngfammfdemaa
open Go.RowKit Go.Proofs.YtplngfammfdemaaW.PrintWords Go.Proofs.YtplngfammfdemaaW.PrintLast Go.Proofs.YtplngfammfdemaaW.PrintMore Q
attribute [local go_sem] max2_int max_two
set_option linter.unusedVariables false
set_option linter.unusedSimpArgs false
theorem sum_one (f : S31 → Int) (xs : List S31) (j : Nat) (h : j < xs.length) : ((xs.take (j + 1)).map f).sum = ((xs.take j).map f).sum + f xs[j] := by
 rw [List.take_succ_eq_append_getElem h, List.map_append, List.sum_append]; simp
theorem max_one (f : S31 → Int) (xs : List S31) (j : Nat) (h : j < xs.length) : ((xs.take (j + 1)).map f).foldl max 0 = max (((xs.take j).map f).foldl max 0) (f xs[j]) := by
 rw [List.take_succ_eq_append_getElem h, List.map_append, List.foldl_append]; rfl
theorem sum_in (f : S31 → Int) (xs : List S31) (h : ∀ x ∈ xs, 1 ≤ f x ∧ f x ≤ 80) : ∀ j, j ≤ xs.length → 0 ≤ ((xs.take j).map f).sum ∧ ((xs.take j).map f).sum ≤ 80 * j := by
 intro j
 induction j with
 | zero => intro _; simp
 | succ j ih =>
  intro hj
  have := ih (by omega)
  have := h xs[j] (List.getElem_mem _)
  rw [sum_one f xs j (by omega)]
  omega
theorem rd31_at (xs : List S31) (j : Nat) (h : j < xs.length) : rd_T31 xs (j : Int) = xs[j] := by
 unfold rd_T31; rw [Int.toNat_natCast, List.getD_eq_getElem?_getD, List.getElem?_eq_getElem h]; rfl
theorem least_bound {d k : Nat} {t : S31} {w h way : Int} (hm : Mk d t w h) (w1 : 1 ≤ w) (w8 : w ≤ 80) (h1 : 1 ≤ h) (h8 : h ≤ 80) (hway : way = 1 ∨ way = 2) : 1 ≤ leastR k t way ∧ leastR k t way ≤ 80 := by
 have := least_pos d k t w h way hm
 have := least_le d k t w h hm w1 h1
 rcases hway with rfl | rfl <;> omega
set_option maxHeartbeats 8000000 in
set_option maxRecDepth 100000 in
theorem least_calls : ∀ (d : Nat) (t : S31) (w0 h0 : Int), Mk d t w0 h0 → 1 ≤ w0 → w0 ≤ 80 → 1 ≤ h0 → h0 ≤ 80 → ∀ (k : Nat), d ≤ k → ∀ (way : Int), way = 1 ∨ way = 2 → ∀ (w : World) (A : Option Addr) (c : Nat), Kd.C k31 w A t.f3.length t.f3 → t.f3.length ≤ c →
 Calls Try.prog 77 #[.agg #[.int .i64 t.f0, .int .i64 t.f1, .int .i64 t.f2, .slice A t.f3.length c], .int .i64 way] w fun e w' => e = .returned (.int .i64 (leastR k t way)) ∧ Below w.heap.size w w' := by
 intro d
 induction d with
 | zero => intro t w0 h0 hm; exact hm.elim
 | succ d ih =>
  intro t w0 h0 hm w1 w8 h1 h8 k hk way hway w A c hC hc
  obtain ⟨k, rfl⟩ : ∃ m, k = m + 1 := ⟨k - 1, by omega⟩
  have hu31 := Try.underlying31
  have IH := zM ih
  have HM := zM hm
  have HW := zM (And.intro w1 (And.intro w8 (And.intro h1 h8)))
  have HC := zM hC
  have HCC := zM hc
  have HK := zM hk
  have WAY := zM hway
  have HB := zM (Below.refl w.heap.size w)
  clear ih hm hC hc hk hway w1 w8 h1 h8
  by_cases k0 : t.f0 = 0
  ·have b0 : (t.f0 == 0) = true := beq_iff_eq.mpr k0
   have e : leastR (k + 1) t way = 1 := by unfold leastR; rw [if_pos k0]
   rw [e]
   clear k0 e
   go_enter Try.func77, Try.ntmps77
   go_wp2_with (first | ((with_reducible refine gate_dst (N := 2) rfl ?_); (try (refine gate_guard (by rfl) ?_; dsimp only)); refine box_event ?hg (N := 2) ?hd (cs := #[.int .i64 t.f0, .int .i64 t.f1, .int .i64 t.f2, .slice A t.f3.length c]) (t := 31) ?hr ?_; (case hd => rfl); (case hg => rfl); (case hr => first | (go_simp; done) | (go_simp; rfl)); intro gT hg wT hbox hb; have BT := zM hbox; have GT := zM (by rw [hg]; exact below_size HB.out : w.heap.size ≤ gT); replace HB := zM (below_step HB.out hb); clear hb hbox hg; obtain ⟨z0, z1, z2, z3, f0, f1, f2, f3⟩ := cz4 BT.out))
   go_ret
   exact ⟨rfl, HB.out⟩
  ·have b0 : (t.f0 == 0) = false := beq_eq_false_iff_ne.mpr k0
   have hkids := HM.out.kids k0
   have hlen := mk_kids HM.out HW.out.2.1 HW.out.2.2.2
   have hbd : ∀ x ∈ t.f3, 1 ≤ leastR k x way ∧ leastR k x way ≤ 80 := fun x hx => by
    obtain ⟨p, q, r, s⟩ := kid_box (kind := t.f0) (hkids.2.2.2.1 x hx).2.1 (hkids.2.2.2.1 x hx).2.2.1 HW.out.1 HW.out.2.1 HW.out.2.2.1 HW.out.2.2.2
    exact least_bound (hkids.2.2.2.1 x hx).2.2.2 p q r s WAY.out
   have SUM := zM (sum_in (fun x => leastR k x way) t.f3 hbd)
   have BD := zM hbd
   have KIDS := zM hkids
   have LEN := zM hlen
   have E : Aside0 (leastR (k + 1) t way = if t.f0 = way then (t.f3.map fun x => leastR k x way).sum + t.f3.length - 1 else (t.f3.map fun x => leastR k x way).foldl max 0) := ⟨by show leastR (k + 1) t way = _; rw [leastR]; rw [if_neg k0]⟩
   have K0 := zM k0
   clear hbd hkids hlen k0
   go_enter Try.func77, Try.ntmps77
   go_wp2_with (first | ((with_reducible refine gate_dst (N := 2) rfl ?_); (try (refine gate_guard (by rfl) ?_; dsimp only)); refine box_event ?hg (N := 2) ?hd (cs := #[.int .i64 t.f0, .int .i64 t.f1, .int .i64 t.f2, .slice A t.f3.length c]) (t := 31) ?hr ?_; (case hd => rfl); (case hg => rfl); (case hr => first | (go_simp; done) | (go_simp; rfl)); intro gT hg wT hbox hb; have BT := zM hbox; have GT := zM (by rw [hg]; exact below_size HB.out : w.heap.size ≤ gT); replace HB := zM (below_step HB.out hb); clear hb hbox hg; obtain ⟨z0, z1, z2, z3, f0, f1, f2, f3⟩ := cz4 BT.out))
   go_loopg [5, 6, 20] t.f3.length (fun kq v5 v6 v20 w' => ∃ i : Nat, v5 = .int .i64 ((t.f3.length : Int) - 1 + ((t.f3.take i).map fun x => leastR k x way).sum) ∧ v6 = .int .i64 (((t.f3.take i).map fun x => leastR k x way).foldl max 0) ∧ v20 = .int .i64 (i : Int) ∧ Aside0 (i + kq = t.f3.length) ∧ Aside0 (w'.heap[gT]? = some (.cells #[.int .i64 t.f0, .int .i64 t.f1, .int .i64 t.f2, .slice A t.f3.length c] 31 (0, 0))) ∧ Aside0 (Below w.heap.size w w'))
   case atStart => exact ⟨0, by first | rfl | (congr 1; have := LEN.out; unfold wrap64; simp; omega), rfl, rfl, ⟨by omega⟩, ⟨BT.out⟩, ⟨HB.out⟩⟩
   case round =>
    clear z0 z1 z2 z3 f0 f1 f2 f3 BT HB
    obtain ⟨i, rfl, rfl, rfl, HI, BT, HB⟩ := hrel
    have hi := HI.out
    have hl := LEN.out
    obtain ⟨z0, z1, z2, z3, f0, f1, f2, f3⟩ := cz4 BT.out
    cases gk with
    | zero =>
     have c4 : decide ((i : Int) < (t.f3.length : Int)) = false := decide_eq_false (by omega)
     have hin : i = t.f3.length := by omega
     rw [hin, List.take_length]
     rw [hin] at c4
     by_cases kw : t.f0 = way
     ·have bw : (t.f0 == way) = true := beq_iff_eq.mpr kw
      have EE := zM (by have e := E.out; rw [if_pos kw] at e; exact e)
      clear kw hi hin
      go_wp2
      go_ret
      exact ⟨by rw [EE.out]; exact congrArg (fun z => Ending.returned (Value.int IntKind.i64 z)) (show (t.f3.length : Int) - 1 + (t.f3.map fun x => leastR k x way).sum = (t.f3.map fun x => leastR k x way).sum + t.f3.length - 1 by omega), HB.out⟩
     ·have bw : (t.f0 == way) = false := beq_eq_false_iff_ne.mpr kw
      have EE := zM (by have e := E.out; rw [if_neg kw] at e; exact e)
      clear kw hi hin
      go_wp2
      go_ret
      exact ⟨by rw [EE.out]; rfl, HB.out⟩
    | succ k1 =>
     have c4 : decide ((i : Int) < (t.f3.length : Int)) = true := decide_eq_true (by omega)
     have p22 : 0 ≤ (i : Int) := by omega
     have q22 : (i : Int) < (t.f3.length : Int) := by omega
     have hii : i < t.f3.length := by omega
     have hs := SUM.out i (by omega)
     have hs1 := SUM.out (i + 1) (by omega)
     rw [sum_one (fun x => leastR k x way) t.f3 i hii] at hs1
     rw [← rd31_at t.f3 i hii] at hs1
     have hmx : rd_T31 t.f3 (i : Int) ∈ t.f3 := by rw [rd31_at t.f3 i hii]; exact List.getElem_mem _
     have MX : Aside0 (Mk d (rd_T31 t.f3 (i : Int)) (kwd t.f0 (rd_T31 t.f3 (i : Int)).f2 w0) (khd t.f0 (rd_T31 t.f3 (i : Int)).f2 h0) ∧ 1 ≤ kwd t.f0 (rd_T31 t.f3 (i : Int)).f2 w0 ∧ kwd t.f0 (rd_T31 t.f3 (i : Int)).f2 w0 ≤ 80 ∧ 1 ≤ khd t.f0 (rd_T31 t.f3 (i : Int)).f2 h0 ∧ khd t.f0 (rd_T31 t.f3 (i : Int)).f2 h0 ≤ 80) := ⟨⟨(KIDS.out.2.2.2.1 _ hmx).2.2.2, kid_box (kind := t.f0) (KIDS.out.2.2.2.1 _ hmx).2.1 (KIDS.out.2.2.2.1 _ hmx).2.2.1 HW.out.1 HW.out.2.1 HW.out.2.2.1 HW.out.2.2.2⟩⟩
     obtain ⟨ad, A3, c3, e22, x0, x1, x2, x3, l3, i3⟩ := at_T31 HC.out (i : Int) p22 q22
     cases e22
     rw [Int.toNat_natCast] at x0 x1 x2 x3
     replace x0 := (HB.out.cell (zL w _ x0)).trans x0
     replace x1 := (HB.out.cell (zL w _ x1)).trans x1
     replace x2 := (HB.out.cell (zL w _ x2)).trans x2
     replace x3 := (HB.out.cell (zL w _ x3)).trans x3
     have HX := zM (Kd.C_below i3 HB.out)
     have HL3 := zM l3
     replace p22 := eq_true p22
     replace q22 := eq_true q22
     clear i3 l3 hmx
     go_wp2_with (first | ((with_reducible refine gate_dst (N := 8) rfl ?_); (try (refine gate_guard (by rfl) ?_; dsimp only)); refine box_event ?hg (N := 8) ?hd (cs := #[.int .i64 0, .int .i64 0, .int .i64 0, .slice none 0 0]) (t := 31) ?hr ?_; (case hd => rfl); (case hg => rfl); (case hr => first | (go_simp; done) | (go_simp; rfl)); intro gK hg wK hbox hb; have BK := zM hbox; have GK := zM (by rw [hg]; exact below_size HB.out : w.heap.size ≤ gK); have NTK := zM (by rw [hg]; exact lt1 BT.out : gT ≠ gK); have NKT := zM (by rw [hg]; exact gt1 BT.out : gK ≠ gT); replace BT := zM (bb hb BT.out); have HWR := zM hb; have GE := zM hg; replace HB := zM (below_step HB.out hb); replace x0 := (hb.cell (zL _ _ x0)).trans x0; replace x1 := (hb.cell (zL _ _ x1)).trans x1; replace x2 := (hb.cell (zL _ _ x2)).trans x2; replace x3 := (hb.cell (zL _ _ x3)).trans x3; clear hb hbox hg; obtain ⟨z0, z1, z2, z3, f0, f1, f2, f3⟩ := cz4 BT.out; have nTK := NTK.out; have nKT := NKT.out; obtain ⟨y0, y1, y2, y3, e0, e1, e2, e3⟩ := cz4 BK.out) | (go_at_call 77; refine (IH.out (rd_T31 t.f3 (i : Int)) _ _ MX.out.1 MX.out.2.1 MX.out.2.2.1 MX.out.2.2.2.1 MX.out.2.2.2.2 k (Nat.le_of_succ_le_succ HK.out) way WAY.out _ A3 c3 ?side1 HL3.out).mono ?_; (case side1 => exact Kd.C_below HX.out (zS (zS (zS (zS HWR.out (Nat.le_of_eq GE.out.symm)) (Nat.le_of_eq GE.out.symm)) (Nat.le_of_eq GE.out.symm)) (Nat.le_of_eq GE.out.symm))); rintro e w2 ⟨rfl, hb⟩; replace BT := zM (bb hb (far4 NTK.out BT.out)); replace HB := zM (below_step (zS (zS (zS (zS HB.out GK.out) GK.out) GK.out) GK.out) hb); clear hb))
     all_goals (
      go_roundg k1
      case measure => omega
      case rel =>
       refine ⟨i + 1, ?_, ?_, ?_, ⟨by omega⟩, ⟨BT.out⟩, ⟨HB.out⟩⟩
       ·rw [sum_one (fun x => leastR k x way) t.f3 i hii, ← rd31_at t.f3 i hii]
        simp only [List.map_take] at hs hs1 ⊢
        first | (congr 1; unfold wrap64; omega) | (congr 1; omega)
       ·rw [max_one (fun x => leastR k x way) t.f3 i hii, ← rd31_at t.f3 i hii]
        simp only [List.map_take]
        first | rfl | (congr 1; omega)
       ·first | rfl | (congr 1; first | omega | (unfold wrap64; omega)))
end Go.Proofs.Ytplngfammfdemaa
end
section
namespace Go.Proofs.Ytplngfammfdemaa
open Q
set_option linter.unusedVariables false
set_option linter.unusedSimpArgs false
theorem take_one (xs : List S31) (j : Nat) (h : j < xs.length) : xs.take (j + 1) = xs.take j ++ [xs[j]] := by rw [List.take_succ_eq_append_getElem h]
theorem drop_one (xs : List S31) (j : Nat) (h : j < xs.length) : xs.drop j = xs[j] :: xs.drop (j + 1) := List.drop_eq_getElem_cons h
theorem sumF_one (xs : List S31) (j : Nat) (h : j < xs.length) : sumF (xs.take (j + 1)) = sumF (xs.take j) + xs[j].f2 := by
  rw [take_one xs j h, sumF_append, sumF_cons, sumF_nil]; omega
theorem put_at (A B : List S31) (x y : S31) (j : Nat) (h : A.length = j) : (A ++ x :: B).set j y = A ++ y :: B := by
  subst h; exact set_at A x y B
theorem got_at (A B : List S31) (x : S31) (j : Nat) (h : A.length = j) : (A ++ x :: B)[j]? = some x := by
  subst h; exact get_at A x B
/-- fit's second loop: what lies behind i is fitted. -/
def fitF (ls : S31 → Int) (xs : List S31) (m : Int) (i : Nat) : List S31 := xs.take i ++ (fitS ls (xs.drop i) m).1
def fitM (ls : S31 → Int) (xs : List S31) (m : Int) (i : Nat) : Int := (fitS ls (xs.drop i) m).2
theorem fitF_end (ls : S31 → Int) (xs : List S31) (m : Int) : fitF ls xs m xs.length = xs := by
  unfold fitF; rw [List.drop_length, List.take_length]; simp [fitS]
theorem fitM_end (ls : S31 → Int) (xs : List S31) (m : Int) : fitM ls xs m xs.length = m := by
  unfold fitM; rw [List.drop_length]; rfl
theorem fitF_at (ls : S31 → Int) (xs : List S31) (m : Int) (j : Nat) (h : j < xs.length) : (fitF ls xs m (j + 1))[j]? = some xs[j] := by
  unfold fitF
  rw [take_one xs j h, List.append_assoc]
  exact got_at _ _ _ j (by rw [List.length_take]; omega)
theorem fitM_step (ls : S31 → Int) (xs : List S31) (m : Int) (j : Nat) (h : j < xs.length) : fitM ls xs m j = fitM ls xs m (j + 1) - max (fitM ls xs m (j + 1)) (ls xs[j] - xs[j].f2) := by
  unfold fitM
  rw [drop_one xs j h]
  rfl
theorem fitF_step (ls : S31 → Int) (xs : List S31) (m : Int) (j : Nat) (h : j < xs.length) : (fitF ls xs m (j + 1)).set j (withSize xs[j] (xs[j].f2 + max (fitM ls xs m (j + 1)) (ls xs[j] - xs[j].f2))) = fitF ls xs m j := by
  unfold fitF fitM
  rw [take_one xs j h, List.append_assoc, List.singleton_append, put_at _ _ _ _ j (by rw [List.length_take]; omega)]
  rw [drop_one xs j h]
  rfl
theorem fitF_len (ls : S31 → Int) (xs : List S31) (m : Int) (j : Nat) (h : j ≤ xs.length) : (fitF ls xs m j).length = xs.length := by
  unfold fitF
  rw [List.length_append, resized_len (fitS_resized ls (xs.drop j) m), List.length_take, List.length_drop]
  omega
theorem fitM_low (ls : S31 → Int) (m : Int) : ∀ (xs : List S31), (∀ x ∈ xs, ls x ≤ x.f2) → min 0 m ≤ (fitS ls xs m).2 ∧ (fitS ls xs m).2 ≤ max 0 m := by
  intro xs
  induction xs with
  | nil => intro _; simp only [fitS]; omega
  | cons x xs ih =>
    intro h
    have h1 := ih (fun y hy => h y (List.mem_cons_of_mem _ hy))
    have h2 := h x (List.mem_cons_self ..)
    simp only [fitS]
    omega
theorem fitM_in (ls : S31 → Int) (xs : List S31) (m : Int) (j : Nat) (h : ∀ x ∈ xs, ls x ≤ x.f2) : min 0 m ≤ fitM ls xs m j ∧ fitM ls xs m j ≤ max 0 m := fitM_low ls m _ (fun x hx => h x (List.mem_of_mem_drop hx))
/-- fit's third loop. -/
def mapG (f : S31 → S31) (ys : List S31) (i : Nat) : List S31 := (ys.take i).map f ++ ys.drop i
theorem mapG_end (f : S31 → S31) (ys : List S31) : mapG f ys ys.length = ys.map f := by unfold mapG; rw [List.take_length, List.drop_length, List.append_nil]
theorem mapG_len (f : S31 → S31) (ys : List S31) (i : Nat) : (mapG f ys i).length = ys.length := by
  unfold mapG; rw [List.length_append, List.length_map, List.length_take, List.length_drop]; omega
theorem mapG_at (f : S31 → S31) (ys : List S31) (i : Nat) (h : i < ys.length) : (mapG f ys i)[i]? = some ys[i] := by
  unfold mapG
  rw [drop_one ys i h]
  exact got_at _ _ _ i (by rw [List.length_map, List.length_take]; omega)
theorem mapG_step (f : S31 → S31) (ys : List S31) (i : Nat) (h : i < ys.length) : (mapG f ys i).set i (f ys[i]) = mapG f ys (i + 1) := by
  unfold mapG
  rw [drop_one ys i h, put_at _ _ _ _ i (by rw [List.length_map, List.length_take]; omega), take_one ys i h, List.map_append, List.append_assoc]
  rfl
/-- named's loop: the kids, and the names that are left. -/
theorem nameK_append (f : S31 → List Int → S31 × List Int) : ∀ (a b : List S31) (l : List Int), nameK f (a ++ b) l = ((nameK f a l).1 ++ (nameK f b (nameK f a l).2).1, (nameK f b (nameK f a l).2).2) := by
  intro a
  induction a with
  | nil => intro b l; rfl
  | cons x a ih => intro b l; simp only [List.cons_append, nameK, ih]
def nameG (f : S31 → List Int → S31 × List Int) (xs : List S31) (l : List Int) (i : Nat) : List S31 := (nameK f (xs.take i) l).1 ++ xs.drop i
def nameL (f : S31 → List Int → S31 × List Int) (xs : List S31) (l : List Int) (i : Nat) : List Int := (nameK f (xs.take i) l).2
theorem nameG_end (f : S31 → List Int → S31 × List Int) (xs : List S31) (l : List Int) : nameG f xs l xs.length = (nameK f xs l).1 := by unfold nameG; rw [List.take_length, List.drop_length, List.append_nil]
theorem nameL_end (f : S31 → List Int → S31 × List Int) (xs : List S31) (l : List Int) : nameL f xs l xs.length = (nameK f xs l).2 := by unfold nameL; rw [List.take_length]
theorem nameG_len (f : S31 → List Int → S31 × List Int) (xs : List S31) (l : List Int) (i : Nat) : (nameG f xs l i).length = xs.length := by
  unfold nameG; rw [List.length_append, nameK_len, List.length_take, List.length_drop]; omega
theorem nameG_at (f : S31 → List Int → S31 × List Int) (xs : List S31) (l : List Int) (i : Nat) (h : i < xs.length) : (nameG f xs l i)[i]? = some xs[i] := by
  unfold nameG
  rw [drop_one xs i h]
  exact got_at _ _ _ i (by rw [nameK_len, List.length_take]; omega)
theorem nameG_step (f : S31 → List Int → S31 × List Int) (xs : List S31) (l : List Int) (i : Nat) (h : i < xs.length) : (nameG f xs l i).set i (f xs[i] (nameL f xs l i)).1 = nameG f xs l (i + 1) := by
  unfold nameG nameL
  rw [drop_one xs i h, put_at _ _ _ _ i (by rw [nameK_len, List.length_take]; omega), take_one xs i h, nameK_append]
  simp only [nameK, List.append_assoc, List.singleton_append]
theorem nameL_step (f : S31 → List Int → S31 × List Int) (xs : List S31) (l : List Int) (i : Nat) (h : i < xs.length) : nameL f xs l (i + 1) = (f xs[i] (nameL f xs l i)).2 := by
  unfold nameL
  rw [take_one xs i h, nameK_append]
  rfl
end Go.Proofs.Ytplngfammfdemaa
end
