-- A copy of the text YtplngfammfdemaaGSeat with what this claim does not reach left out (prune.py, a program of this project).
import Derived.Test.YtplngfammfdemaaZsPx0
namespace Go.Proofs.Ytplngfammfdemaa
open Go.RowKit Go.Proofs.YtplngfammfdemaaW.PrintWords Go.Proofs.YtplngfammfdemaaW.PrintLast Go.Proofs.YtplngfammfdemaaW.PrintMore P
set_option linter.unusedVariables false
set_option linter.unusedSimpArgs false
/-- A call through a function value, as an arm of go_wp2_with. -/
theorem goesF_ {P : Program} {ops : Array Oper} {Q : Exit → Act → World → Prop} {w : World} {rest : List Oper} {oi : Oper} {a : Act} (N : Option Tmp) (hd : oi.dst = N) (hg : oi.guard = none) {f : FuncId} {fn : Func} {x : Tmp} {ops_ : Array Operand} {ts : Array TypeId} {lb : Array Value} (hf : P.funcs[f]? = some fn) (hname : (fn.name == "runtime.NumGoroutine") = false) (hb : fn.body.isSome = true) (args : Array Value)
    (hop : oi.op = .call { callee := .value (.tmp x), args := ops_, argTypes := ts }) (hx : a.eval (.tmp x) = .func (.func f) #[] lb) (hargs : ops_.map a.eval = args)
    (h : Calls P f (args ++ lb) w fun e w' => ∃ v, e = .returned v ∧ wpList P ops Q rest (a.put N v) w') : wpList P ops Q (oi :: rest) a w := by
  refine wpList_plain hg fun K hK => ?_
  have he := enters_ hf hname hb (args ++ lb) w
  have hrun : (execOp a.eval oi).run P w = .ok (.enter f (args ++ lb)) w := by
    unfold execOp
    simp [hop, hx, resolve, Deferred.ofValue, invoke, hargs, he]
  unfold Oper.wp
  rw [hrun, Oper.upon_enter]
  refine h.mono fun e w'' hh => ?_
  obtain ⟨v, rfl, hk⟩ := hh
  subst hd
  exact hK _ _ hk
/-- The same, where nothing is captured. -/
theorem goesG_ {P : Program} {ops : Array Oper} {Q : Exit → Act → World → Prop} {w : World} {rest : List Oper} {oi : Oper} {a : Act} (N : Option Tmp) (hd : oi.dst = N) (hg : oi.guard = none) {f : FuncId} {fn : Func} {x : Tmp} {ops_ : Array Operand} {ts : Array TypeId} (hf : P.funcs[f]? = some fn) (hname : (fn.name == "runtime.NumGoroutine") = false) (hb : fn.body.isSome = true) (args : Array Value)
    (hop : oi.op = .call { callee := .value (.tmp x), args := ops_, argTypes := ts }) (hx : a.eval (.tmp x) = .func (.func f) #[] #[]) (hargs : ops_.map a.eval = args)
    (h : Calls P f args w fun e w' => ∃ v, e = .returned v ∧ wpList P ops Q rest (a.put N v) w') : wpList P ops Q (oi :: rest) a w :=
  goesF_ N hd hg hf hname hb args hop hx hargs (by rw [Array.append_empty]; exact h)
def seatV (x : S48) : Value := .agg #[.int .i64 x.f0, .int .i64 x.f1, .int .i64 x.f2, .int .i64 x.f3]
/-- Wherever all that lay in w lies unturned, the function value tells p. -/
def PredS (g : FuncId) (lb : Array Value) (p : S48 → Bool) (w : World) : Prop := ∀ W, Below w.heap.size w W → ∀ x : S48, Calls Try.prog g (#[seatV x] ++ lb) W fun e W' => e = .returned (.bool (p x)) ∧ Below W.heap.size W W'
def idxI (p : S48 → Bool) (l : List S48) : Int := match l.findIdx? p with | some i => (i : Int) | none => -1
theorem idxI_at {p : S48 → Bool} {l : List S48} {i : Nat} (hi : i < l.length) (h : ∀ j : Nat, j < i → p (rd_T48 l j) = false) (hp : p (rd_T48 l i) = true) : idxI p l = i := by
  have e : ∀ j (hj : j < l.length), rd_T48 l (j : Int) = l[j] := fun j hj => by unfold rd_T48; rw [Int.toNat_natCast, List.getD_eq_getElem?_getD, List.getElem?_eq_getElem hj]; rfl
  have : l.findIdx? p = some i := by
    rw [List.findIdx?_eq_some_iff_getElem]
    refine ⟨hi, by rw [← e i hi]; exact hp, fun j hj => ?_⟩
    rw [← e j (by omega), h j hj]; simp
  unfold idxI
  rw [this]
theorem idxI_none {p : S48 → Bool} {l : List S48} (h : ∀ j : Nat, j < l.length → p (rd_T48 l j) = false) : idxI p l = -1 := by
  have e : ∀ j (hj : j < l.length), rd_T48 l (j : Int) = l[j] := fun j hj => by unfold rd_T48; rw [Int.toNat_natCast, List.getD_eq_getElem?_getD, List.getElem?_eq_getElem hj]; rfl
  have : l.findIdx? p = none := by
    rw [List.findIdx?_eq_none_iff]
    intro x hx
    obtain ⟨j, hj, rfl⟩ := List.getElem_of_mem hx
    rw [← e j hj]; exact h j hj
  unfold idxI
  rw [this]
set_option maxHeartbeats 8000000 in
set_option maxRecDepth 100000 in
theorem index_seats (g : FuncId) (fn : Func) (lb : Array Value) (hf : Try.prog.funcs[g]? = some fn) (hname : (fn.name == "runtime.NumGoroutine") = false) (hbd : fn.body.isSome = true) (p : S48 → Bool) (A0 : Option Addr) (c0 : Nat) (l0 : List S48) (w : World) (hr0 : Kd.C k48 w A0 l0.length l0) (hc0 : l0.length ≤ c0) (hlen : l0.length < 1000000000000000000) (hp : PredS g lb p w) (r : Int) (hr : idxI p l0 = r) :
    Calls Try.prog 124 #[.slice A0 l0.length c0, .func (.func g) #[] lb] w fun e w' => e = .returned (.int .i64 r) ∧ Below w.heap.size w w' := by
  have hu48 := Try.underlying48
  have HR0 := Aside0.mk hr0
  have HC0 := Aside0.mk hc0
  have HP := Aside0.mk hp
  have HL := Aside0.mk hlen
  clear hr0 hc0 hp hlen
  go_enter Try.func124, Try.ntmps124
  go_wp2
  go_loopg [8] l0.length (fun kq v8 w' => ∃ i : Nat, v8 = .int .i64 (i : Int) ∧ Aside0 (i + kq = l0.length) ∧ Aside0 (∀ j : Nat, j < i → p (rd_T48 l0 j) = false) ∧ Aside0 (Below w.heap.size w w'))
  case atStart => exact ⟨0, rfl, ⟨by omega⟩, ⟨fun j hj => absurd hj (by omega)⟩, ⟨Below.refl _ _⟩⟩
  case round =>
    obtain ⟨i, rfl, HK, HA, HB⟩ := hrel
    have hk := HK.out
    have hl := HL.out
    cases gk with
    | zero =>
      have c4b0 : decide ((i : Int) < (l0.length : Int)) = false := decide_eq_false (by omega)
      rw [idxI_none (fun j hj => HA.out j (by omega))] at hr
      subst hr
      go_wp2
      go_ret
      exact ⟨rfl, HB.out⟩
    | succ k1 =>
      have c4b0 : decide ((i : Int) < (l0.length : Int)) = true := decide_eq_true (by omega)
      have p228 : 0 ≤ (i : Int) := by omega
      have q228 : (i : Int) < (l0.length : Int) := by omega
      obtain ⟨ad228, e228, hx228_0, hx228_1, hx228_2, hx228_3⟩ := at_T48 HR0.out i p228 q228
      cases e228
      rw [Int.toNat_natCast] at hx228_0 hx228_1 hx228_2 hx228_3
      replace hx228_0 := (HB.out.cell (World.block_lt_of_cell? w _ hx228_0)).trans hx228_0
      replace hx228_1 := (HB.out.cell (World.block_lt_of_cell? w _ hx228_1)).trans hx228_1
      replace hx228_2 := (HB.out.cell (World.block_lt_of_cell? w _ hx228_2)).trans hx228_2
      replace hx228_3 := (HB.out.cell (World.block_lt_of_cell? w _ hx228_3)).trans hx228_3
      replace p228 := eq_true p228
      replace q228 := eq_true q228
      cases hpx : p (rd_T48 l0 (i : Int)) with
      | true =>
        rw [idxI_at (by omega) HA.out hpx] at hr
        subst hr
        go_wp2_with (first | (refine goesF_ (some 16) rfl rfl hf hname hbd #[seatV (rd_T48 l0 (i : Int))] rfl rfl (by (try simp only [List.map_toArray, List.map_cons, List.map_nil]); first | done | rfl) ?_; refine (HP.out _ HB.out _).mono ?_; rintro e w1 ⟨rfl, hb⟩; rw [hpx]; refine ⟨_, rfl, ?_⟩; replace HB := Aside0.mk (below_step HB.out hb); clear hb))
        go_ret
        exact ⟨rfl, HB.out⟩
      | false =>
        go_wp2_with (first | (refine goesF_ (some 16) rfl rfl hf hname hbd #[seatV (rd_T48 l0 (i : Int))] rfl rfl (by (try simp only [List.map_toArray, List.map_cons, List.map_nil]); first | done | rfl) ?_; refine (HP.out _ HB.out _).mono ?_; rintro e w1 ⟨rfl, hb⟩; rw [hpx]; refine ⟨_, rfl, ?_⟩; replace HB := Aside0.mk (below_step HB.out hb); clear hb))
        go_roundg k1
        case measure => omega
        case rel =>
          refine ⟨i + 1, ?_, ⟨by omega⟩, ⟨fun j hj => ?_⟩, ⟨HB.out⟩⟩
          · first
            | rfl
            | (congr 1; first | omega | (unfold wrap64; omega))
          · by_cases hji : j = i
            · rw [hji]; exact hpx
            · exact HA.out j (by omega)
theorem any_idx (p : S48 → Bool) (l : List S48) : decide (0 ≤ idxI p l) = l.any p := by
  unfold idxI
  cases h : l.findIdx? p with
  | none =>
    rw [List.findIdx?_eq_none_iff] at h
    symm
    simp only [Int.reduceNeg, Int.reduceLE, decide_false]
    rw [List.any_eq_false]
    intro x hx; rw [h x hx]; decide
  | some i =>
    rw [List.findIdx?_eq_some_iff_getElem] at h
    obtain ⟨hi, hp, _⟩ := h
    symm
    rw [show decide (0 ≤ (i : Int)) = true by simp, List.any_eq_true]
    exact ⟨l[i], List.getElem_mem hi, hp⟩
theorem contains_seats (g : FuncId) (fn : Func) (lb : Array Value) (hf : Try.prog.funcs[g]? = some fn) (hname : (fn.name == "runtime.NumGoroutine") = false) (hbd : fn.body.isSome = true) (p : S48 → Bool) (A0 : Option Addr) (c0 : Nat) (l0 : List S48) (w : World) (hr0 : Kd.C k48 w A0 l0.length l0) (hc0 : l0.length ≤ c0) (hlen : l0.length < 1000000000000000000) (hp : PredS g lb p w) (r : Bool) (hr : l0.any p = r) :
    Calls Try.prog 105 #[.slice A0 l0.length c0, .func (.func g) #[] lb] w fun e w' => e = .returned (.bool r) ∧ Below w.heap.size w w' := by
  rw [← any_idx] at hr
  have HI := Aside0.mk (index_seats g fn lb hf hname hbd p A0 c0 l0 w hr0 hc0 hlen hp _ rfl)
  generalize idxI p l0 = z at hr HI
  subst hr
  clear hr0 hc0 hlen hp hf hname hbd
  go_enter Try.func105, Try.ntmps105
  go_wp2_with (go_at_call 124; refine HI.out.mono ?_; rintro e w1 ⟨rfl, hb⟩)
  go_ret
  exact ⟨rfl, hb⟩
/-- busy's own predicate: another client's seat has a time. -/
def busyP (c t : Int) (x : S48) : Bool := decide (x.f0 ≠ c) && decide (x.f3 = t)
set_option maxHeartbeats 4000000 in
set_option maxRecDepth 100000 in
theorem busy_closure (c t : Int) (B : Nat) (w : World) (hc : w.cell? ⟨B, 0, none⟩ = some (.int .i64 c)) (B2 : Nat) (ht : w.cell? ⟨B2, 0, none⟩ = some (.int .i64 t)) : PredS 106 #[.pointer (some ⟨B, 0, none⟩), .pointer (some ⟨B2, 0, none⟩)] (busyP c t) w := by
  intro W hW x
  have hu48 := Try.underlying48
  have hc' := (hW.cell (World.block_lt_of_cell? w _ hc)).trans hc
  have ht' := (hW.cell (World.block_lt_of_cell? w _ ht)).trans ht
  have hb1 := Aside0.mk (World.block_lt_of_cell? W _ hc')
  have hb2 := Aside0.mk (World.block_lt_of_cell? W _ ht')
  clear hc ht hW
  show Calls Try.prog 106 #[.agg #[.int .i64 x.f0, .int .i64 x.f1, .int .i64 x.f2, .int .i64 x.f3], .pointer (some ⟨B, 0, none⟩), .pointer (some ⟨B2, 0, none⟩)] W _
  unfold busyP
  by_cases h1 : x.f0 = c
  · have c1 : (x.f0 != c) = false := bne_eq_false_iff_eq.mpr h1
    replace h1 := Aside0.mk h1
    go_enter Try.func106, Try.ntmps106
    go_wp2_with (first | ((with_reducible refine gate_dst (N := 3) rfl ?_); refine box_event ?hg (N := 3) ?hd (cs := #[.int .i64 x.f0, .int .i64 x.f1, .int .i64 x.f2, .int .i64 x.f3]) (t := 48) ?hr ?_; (case hd => rfl); (case hg => rfl); (case hr => first | (go_simp; done) | (go_simp; rfl)); intro g hg w1 hbox hb; have z0 : w1.cell? ⟨g, 0, none⟩ = some (.int .i64 x.f0) := (blk_cell hbox 0).trans rfl; have z3 : w1.cell? ⟨g, 3, none⟩ = some (.int .i64 x.f3) := (blk_cell hbox 3).trans rfl; replace hc' := (hb.cell hb1.out).trans hc'; replace ht' := (hb.cell hb2.out).trans ht'; have HB := Aside0.mk hb; clear hb hbox hg))
    go_ret
    exact ⟨by simp [h1.out], HB.out⟩
  · have c1 : (x.f0 != c) = true := bne_iff_ne.mpr h1
    replace h1 := Aside0.mk h1
    go_enter Try.func106, Try.ntmps106
    go_wp2_with (first | ((with_reducible refine gate_dst (N := 3) rfl ?_); refine box_event ?hg (N := 3) ?hd (cs := #[.int .i64 x.f0, .int .i64 x.f1, .int .i64 x.f2, .int .i64 x.f3]) (t := 48) ?hr ?_; (case hd => rfl); (case hg => rfl); (case hr => first | (go_simp; done) | (go_simp; rfl)); intro g hg w1 hbox hb; have z0 : w1.cell? ⟨g, 0, none⟩ = some (.int .i64 x.f0) := (blk_cell hbox 0).trans rfl; have z3 : w1.cell? ⟨g, 3, none⟩ = some (.int .i64 x.f3) := (blk_cell hbox 3).trans rfl; replace hc' := (hb.cell hb1.out).trans hc'; replace ht' := (hb.cell hb2.out).trans ht'; have HB := Aside0.mk hb; clear hb hbox hg))
    go_ret
    exact ⟨by simp [h1.out]; rfl, HB.out⟩
end Go.Proofs.Ytplngfammfdemaa
