-- Copies of the texts YtplngfammfdemaaURepT, YtplngfammfdemaaGIdx with what this claim does not reach left out (prune.py, a program of this project).
import Derived.Test.YtplngfammfdemaaZyURepG
import Derived.Test.YtplngfammfdemaaZyGCont
section
namespace Go.Proofs.Ytplngfammfdemaa
open Go.RowKit Go.Proofs.YtplngfammfdemaaW.PrintWords Go.Proofs.YtplngfammfdemaaW.PrintLast Go.Proofs.YtplngfammfdemaaW.PrintMore Q
set_option linter.unusedVariables false
set_option linter.unusedSimpArgs false
theorem replace_rows {w : World} {ok : Nat → Prop} {base g cap vb cv : Nat} {cells vcells : Array Value} {xs vs : List S31} {vrows : List (List Value)} (HO : OwnAt w ok base g cap cells xs) (hVb0 : w.heap[vb]? = some (.cells vcells 31 (0, 0))) (hvt : vcells.toList.take (vs.length * 4) = vrows.flatten) (hVR : TreeRows w ok vrows vs) (hb : base ≤ w.heap.size) (hf : xs.length ≤ 100000) (hv : vs.length ≤ 100000) (hv2 : 2 ≤ vs.length) (ha : ∀ k, ok k → k ≠ g ∧ k < w.heap.size) (hvb : vb ≠ g) (i : Nat) (hi : i < xs.length) :
    Calls Try.prog 112 #[.slice (some ⟨g, 0, none⟩) xs.length cap, .int .i64 (i : Int), .int .i64 ((i + 1 : Nat) : Int), .slice (some ⟨vb, 0, none⟩) vs.length cv] w fun e w' => RowT w w' base g ok e (xs.take i ++ (vs ++ xs.drop (i + 1))) := by
  obtain ⟨rows, hG, hL, ht, hR⟩ := HO.open4
  have hVb : w.heap[vb]? = some (.cells vcells.toList.toArray 31 (0, 0)) := by rw [Array.toArray_toList]; exact hVb0
  have hRl := hR.len
  have hVl := hVR.len
  have hfit := HO.fit
  have len : (xs.take i ++ (vs ++ xs.drop (i + 1))).length = i + vs.length + (xs.length - (i + 1)) := put_len xs vs i (i + 1) (by omega) (by omega)
  by_cases hie : xs.length = i + 1
  · have hdrop : xs.drop (i + 1) = [] := List.drop_eq_nil_of_le (by omega)
    refine (replace_end4 base g cap xs.length vs.length cv vb cells.toList vcells.toList rows vrows hR.four hR.oneL hVR.four hVR.oneL hRl hVl hv2 i hie w (by omega) (by omega) HO.low hb hG hVb hvt hvb hfit HO.most hL ht).mono ?_
    intro e w' h
    have h2 := (hR.take i).append hVR
    rw [hdrop, List.append_nil]
    exact h.trees h2 (by rw [← h2.len, List.length_append, List.length_take]; omega) HO.low hb (by rw [List.length_append, List.length_take]; omega) ha
  · by_cases hr : i + vs.length + (xs.length - (i + 1)) ≤ cap
    · refine (replace_room4 base g cap xs.length vs.length cv vb cells.toList vcells.toList rows vrows hR.four hR.oneL hVR.four hVR.oneL hRl hVl hv2 i (by omega) hr w (by omega) (by omega) HO.low hb hG hVb hvt hvb hfit HO.most hL ht).mono ?_
      intro e w' h
      exact h.trees (hR.put hVR i (i + 1)) len.symm HO.low hb (by omega) ha
    · obtain ⟨q, hq⟩ : ∃ q, xs.length = i + 1 + q + 1 := ⟨xs.length - (i + 2), by omega⟩
      have hl2 : i + vs.length + (q + 1) = i + vs.length + (xs.length - (i + 1)) := by omega
      rw [hq] at ht hfit hRl ⊢
      refine (replace_grow4 base g cap i q vs.length cv vb cells.toList vcells.toList rows vrows hR.four hR.oneL hVR.four hVR.oneL hRl hVl hv2 (by omega) w (by omega) (by omega) HO.low hb hG hVb hvt hvb hfit HO.most hL ht).mono ?_
      intro e w' h
      exact h.trees (hR.put hVR i (i + 1)) (by rw [len]; exact hl2) HO.low hb (by omega) ha
/-- A row whose block is known, read as a row of trees. -/
theorem F_row {w : World} {ok : Nat → Prop} {vb : Nat} {cells : Array Value} {xs : List S31} (h : Kd.F k31 w ok (some ⟨vb, 0, none⟩) xs.length xs) (hp : 0 < xs.length) (hb : w.heap[vb]? = some (.cells cells 31 (0, 0))) : ∃ rows, cells.toList.take (xs.length * 4) = rows.flatten ∧ TreeRows w ok rows xs := by
  obtain ⟨ad, rows, e, hR, hc⟩ := F_rows h hp
  simp only [Option.some.injEq] at e
  subst e
  refine ⟨rows, ?_, hR⟩
  have hl : rows.flatten.length = xs.length * 4 := by rw [flat4_len _ hR.four, hR.len]
  have hat : ∀ j, j < xs.length * 4 → cells.toList[j]? = rows.flatten[j]? := fun j hj => by
    have e : rows.flatten[j]? = some (rows.flatten[j]'(by omega)) := List.getElem?_eq_getElem _
    have h1 := hc j _ e
    rw [addr_addU, blk_cell hb, Nat.zero_add] at h1
    rw [e, Array.getElem?_toList]
    exact h1
  apply List.ext_getElem?
  intro j
  by_cases hj : j < xs.length * 4
  · rw [List.getElem?_take_of_lt hj]; exact hat j hj
  · rw [List.getElem?_take, if_neg hj, List.getElem?_eq_none (by omega)]
/-- A row that a call made since: its block, between lo and hi. -/
def OwnK (lo hi : Nat) (w : World) (A : Option Addr) (n : Nat) : Prop := 0 < n → ∃ vb, ∃ cells : Array Value, A = some ⟨vb, 0, none⟩ ∧ lo ≤ vb ∧ vb < hi ∧ w.heap[vb]? = some (.cells cells 31 (0, 0))
section
variable {w w1 w' : World} {lo hi : Nat} {A : Option Addr} {n : Nat}
theorem OwnK.below (h : OwnK lo hi w A n) (hb : Below w.heap.size w w1) : OwnK lo hi w1 A n := fun hn => by
  obtain ⟨vb, cells, e, h1, h2, h3⟩ := h hn
  exact ⟨vb, cells, e, h1, h2, blk_below h3 hb⟩
theorem OwnK.far (h : OwnK lo hi w A n) {p : Addr} (hp : p.block < lo ∨ hi ≤ p.block) (u : Value) : OwnK lo hi (w.setCell p u) A n := fun hn => by
  obtain ⟨vb, cells, e, h1, h2, h3⟩ := h hn
  exact ⟨vb, cells, e, h1, h2, blk_far h3 (by omega) u⟩
theorem OwnK.of {w0 : World} {c : Nat} {t : S31} (h : OwnV w0 w (.agg #[.int .i64 t.f0, .int .i64 t.f1, .int .i64 t.f2, .slice A t.f3.length c]) t) : OwnK w0.heap.size w.heap.size w A t.f3.length := fun hn => by
  obtain ⟨g, cap, cells, e, h1, h2⟩ := h hn
  simp only [Value.agg.injEq, Array.mk.injEq, List.cons.injEq, Value.slice.injEq, and_true, true_and] at e
  exact ⟨g, cells, e.1, h1, blk_lt h2, h2⟩
end
end Go.Proofs.Ytplngfammfdemaa
end
section
namespace Go.Proofs.Ytplngfammfdemaa
open Go.RowKit Go.Proofs.YtplngfammfdemaaW.PrintWords Go.Proofs.YtplngfammfdemaaW.PrintLast Go.Proofs.YtplngfammfdemaaW.PrintMore Q
set_option linter.unusedVariables false
set_option linter.unusedSimpArgs false
/-- A call through a function value, as an arm of go_wp2_with. -/
theorem goesFR_ {P : Program} {ops : Array Oper} {Q : Exit → Act → World → Prop} {w : World} {rest : List Oper} {oi : Oper} {a : Act} (N : Option Tmp) (hd : oi.dst = N) (hg : oi.guard = none) {f : FuncId} {fn : Func} {x : Tmp} {ops_ : Array Operand} {ts : Array TypeId} {lb : Array Value} (hf : P.funcs[f]? = some fn) (hname : (fn.name == "runtime.NumGoroutine") = false) (hb : fn.body.isSome = true) (args : Array Value)
    (hop : oi.op = .call { callee := .value (.tmp x), args := ops_, argTypes := ts }) (hx : a.eval (.tmp x) = .func (.func f) #[] lb) (hargs : ops_.map a.eval = args)
    (h : Calls P f (args ++ lb) w fun e w' => ∃ v, e = .returned v ∧ wpList P ops Q rest (a.put N v) w') : wpList P ops Q (oi :: rest) a w := by
  refine wpList_plain hg fun K hK => ?_
  have he := enters_ hf hname hb (args ++ lb) w
  have hrun : (execOp a.eval oi).run P w = .ok (.enter f (args ++ lb)) w := by
    unfold execOp
    simp [hop, hx, resolve, Deferred.ofValue, invoke, hargs, he]
  unfold Oper.wp
  rw [hrun, Oper.upon_enter]
  refine h.mono fun e w'' hh => ?_
  obtain ⟨v, rfl, hk⟩ := hh
  subst hd
  exact hK _ _ hk
def rectV (x : S44) : Value := .agg #[.int .i64 x.f0, .int .i64 x.f1, .int .i64 x.f2, .int .i64 x.f3, .int .i64 x.f4]
/-- Wherever all that lay in w lies unturned, the function value tells p. -/
def PredR (g : FuncId) (lb : Array Value) (p : S44 → Bool) (w : World) : Prop := ∀ W, Below w.heap.size w W → ∀ x : S44, Calls Try.prog g (#[rectV x] ++ lb) W fun e W' => e = .returned (.bool (p x)) ∧ Below W.heap.size W W'
def idxR (p : S44 → Bool) (l : List S44) : Int := match l.findIdx? p with | some i => (i : Int) | none => -1
theorem idxR_at {p : S44 → Bool} {l : List S44} {i : Nat} (hi : i < l.length) (h : ∀ j : Nat, j < i → p (rd_T44 l j) = false) (hp : p (rd_T44 l i) = true) : idxR p l = i := by
  have e : ∀ j (hj : j < l.length), rd_T44 l (j : Int) = l[j] := fun j hj => by unfold rd_T44; rw [Int.toNat_natCast, List.getD_eq_getElem?_getD, List.getElem?_eq_getElem hj]; rfl
  have : l.findIdx? p = some i := by
    rw [List.findIdx?_eq_some_iff_getElem]
    refine ⟨hi, by rw [← e i hi]; exact hp, fun j hj => ?_⟩
    rw [← e j (by omega), h j hj]; simp
  unfold idxR
  rw [this]
theorem idxR_none {p : S44 → Bool} {l : List S44} (h : ∀ j : Nat, j < l.length → p (rd_T44 l j) = false) : idxR p l = -1 := by
  have e : ∀ j (hj : j < l.length), rd_T44 l (j : Int) = l[j] := fun j hj => by unfold rd_T44; rw [Int.toNat_natCast, List.getD_eq_getElem?_getD, List.getElem?_eq_getElem hj]; rfl
  have : l.findIdx? p = none := by
    rw [List.findIdx?_eq_none_iff]
    intro x hx
    obtain ⟨j, hj, rfl⟩ := List.getElem_of_mem hx
    rw [← e j hj]; exact h j hj
  unfold idxR
  rw [this]
set_option maxHeartbeats 8000000 in
set_option maxRecDepth 100000 in
theorem index_rects (g : FuncId) (fn : Func) (lb : Array Value) (hf : Try.prog.funcs[g]? = some fn) (hname : (fn.name == "runtime.NumGoroutine") = false) (hbd : fn.body.isSome = true) (p : S44 → Bool) (A0 : Option Addr) (c0 : Nat) (l0 : List S44) (w : World) (hr0 : Kd.C k44 w A0 l0.length l0) (hc0 : l0.length ≤ c0) (hlen : l0.length < 1000000000000000000) (hp : PredR g lb p w) (r : Int) (hr : idxR p l0 = r) :
    Calls Try.prog 83 #[.slice A0 l0.length c0, .func (.func g) #[] lb] w fun e w' => e = .returned (.int .i64 r) ∧ Below w.heap.size w w' := by
  have hu44 := Try.underlying44
  have HR0 := Aside0.mk hr0
  have HC0 := Aside0.mk hc0
  have HP := Aside0.mk hp
  have HL := Aside0.mk hlen
  clear hr0 hc0 hp hlen
  go_enter Try.func83, Try.ntmps83
  go_wp2
  go_loopg [8] l0.length (fun kq v8 w' => ∃ i : Nat, v8 = .int .i64 (i : Int) ∧ Aside0 (i + kq = l0.length) ∧ Aside0 (∀ j : Nat, j < i → p (rd_T44 l0 j) = false) ∧ Aside0 (Below w.heap.size w w'))
  case atStart => exact ⟨0, rfl, ⟨by omega⟩, ⟨fun j hj => absurd hj (by omega)⟩, ⟨Below.refl _ _⟩⟩
  case round =>
    obtain ⟨i, rfl, HK, HA, HB⟩ := hrel
    have hk := HK.out
    have hl := HL.out
    cases gk with
    | zero =>
      have c4b0 : decide ((i : Int) < (l0.length : Int)) = false := decide_eq_false (by omega)
      rw [idxR_none (fun j hj => HA.out j (by omega))] at hr
      subst hr
      go_wp2
      go_ret
      exact ⟨rfl, HB.out⟩
    | succ k1 =>
      have c4b0 : decide ((i : Int) < (l0.length : Int)) = true := decide_eq_true (by omega)
      have p228 : 0 ≤ (i : Int) := by omega
      have q228 : (i : Int) < (l0.length : Int) := by omega
      obtain ⟨ad228, e228, hx228_0, hx228_1, hx228_2, hx228_3, hx228_4⟩ := at_T44 HR0.out i p228 q228
      cases e228
      rw [Int.toNat_natCast] at hx228_0 hx228_1 hx228_2 hx228_3 hx228_4
      replace hx228_0 := (HB.out.cell (World.block_lt_of_cell? w _ hx228_0)).trans hx228_0
      replace hx228_1 := (HB.out.cell (World.block_lt_of_cell? w _ hx228_1)).trans hx228_1
      replace hx228_2 := (HB.out.cell (World.block_lt_of_cell? w _ hx228_2)).trans hx228_2
      replace hx228_3 := (HB.out.cell (World.block_lt_of_cell? w _ hx228_3)).trans hx228_3
      replace hx228_4 := (HB.out.cell (World.block_lt_of_cell? w _ hx228_4)).trans hx228_4
      replace p228 := eq_true p228
      replace q228 := eq_true q228
      cases hpx : p (rd_T44 l0 (i : Int)) with
      | true =>
        rw [idxR_at (by omega) HA.out hpx] at hr
        subst hr
        go_wp2_with (first | (refine goesFR_ (some 16) rfl rfl hf hname hbd #[rectV (rd_T44 l0 (i : Int))] rfl rfl (by (try simp only [List.map_toArray, List.map_cons, List.map_nil]); first | done | rfl) ?_; refine (HP.out _ HB.out _).mono ?_; rintro e w1 ⟨rfl, hb⟩; rw [hpx]; refine ⟨_, rfl, ?_⟩; replace HB := Aside0.mk (below_step HB.out hb); clear hb))
        go_ret
        exact ⟨rfl, HB.out⟩
      | false =>
        go_wp2_with (first | (refine goesFR_ (some 16) rfl rfl hf hname hbd #[rectV (rd_T44 l0 (i : Int))] rfl rfl (by (try simp only [List.map_toArray, List.map_cons, List.map_nil]); first | done | rfl) ?_; refine (HP.out _ HB.out _).mono ?_; rintro e w1 ⟨rfl, hb⟩; rw [hpx]; refine ⟨_, rfl, ?_⟩; replace HB := Aside0.mk (below_step HB.out hb); clear hb))
        go_roundg k1
        case measure => omega
        case rel =>
          refine ⟨i + 1, ?_, ⟨by omega⟩, ⟨fun j hj => ?_⟩, ⟨HB.out⟩⟩
          · first
            | rfl
            | (congr 1; first | omega | (unfold wrap64; omega))
          · by_cases hji : j = i
            · rw [hji]; exact hpx
            · exact HA.out j (by omega)
theorem pred84 (w : World) (gb : Nat) (pane : Int) (hb : w.heap[gb]? = some (.cells #[.int .i64 pane] 3 (0, 0))) : PredR 84 #[.pointer (some ⟨gb, 0, none⟩)] (fun x => x.f0 == pane) w := by
  intro W hW x
  have hb' := blk_below hb hW
  have hu44 := Try.underlying44
  have hlt := blk_lt hb'
  have hb2 := blk_alloc hb' (.cells #[.int .i64 x.f0, .int .i64 x.f1, .int .i64 x.f2, .int .i64 x.f3, .int .i64 x.f4] 44)
  have y0 : (W.alloc (.cells #[.int .i64 x.f0, .int .i64 x.f1, .int .i64 x.f2, .int .i64 x.f3, .int .i64 x.f4] 44)).cell? ⟨gb, 0, none⟩ = some (.int .i64 pane) := (blk_cell hb2 0).trans rfl
  unfold rectV
  go_enter Try.func84, Try.ntmps84
  go_wp2
  go_ret
  exact ⟨rfl, below_alloc (Below.refl _ _) _⟩
end Go.Proofs.Ytplngfammfdemaa
end
