-- A copy of the text YthipdgnbpdngpaaDoorGOne with what this claim does not reach left out (prune.py, a program of this project).
import Derived.Test.YthipdgnbpdngpaaDoorZbPx0
import Derived.Maps.OwnOps
import Derived.Carry
namespace Go.Proofs.YthipdgnbpdngpaaDoor
open Go.RowKit Go.Maps Go.Proofs.YthipdgnbpdngpaaDoorW.PrintWords Go.Proofs.YthipdgnbpdngpaaDoorW.PrintLast
def cell_clears.at (n : Int) : Int := if n = 22 then 3 else if n = 23 then 4 else if n = 24 then 8 else if n = 25 then 16 else if n = 27 then 32 else if n = 28 then 64 else if n = 29 then 128 else 0
/-- What the map holds at a number (told of the numbers that an int can be). -/
def cell_clears.f (n : Int) : Option Int := if (Lit.int .i64 n).wf = true then some (cell_clears.at n) else none
theorem wpList_insert_own {H : Type} {P : Program} (w : World) {ops : Array Oper} {rest : List Oper} {o : Oper} {a : Act} {Q : Exit → Act → World → Prop}
    (hg : o.guard = none) (m x v : Operand) (t : TypeId) (hop : o.op = Op.insert t m x v)
    (k e : TypeId) (K : Keyed P k) (ht : P.underlying t = some (.map k e)) (R : Value → Option (DataW H × List MemPlace)) (b n : Nat) (D : DataW H)
    (hm : a.eval m = .map (some b)) (hown : w.ownsMap P k R b n D) (hn : n < maxLen) (key val : Value) (kl : Lit) (hx : a.eval x = key) (hv : a.eval v = val) (hkey : keyOf P k key = some kl)
    (d : DataW H) (ps : List MemPlace) (hval : R val = some (d, ps))
    (hK : ∀ w', w'.ownsMap P k R b (n + 1) (D.put kl d) → w.grownBy w' (some b) → wpList P ops Q rest (a.put o.dst undef) w') :
    wpList P ops Q (o :: rest) a w := by
  refine wpList_plain hg fun K' hK' => ?_
  obtain ⟨w', hrun, r1, r2⟩ := hown.update K ht hn hkey hval
  unfold Oper.wp
  simp [execOp, hop, hm, hx, hv, hrun, Result.andThen]
  exact hK' _ _ (hK w' r1 r2)
def clD : DataW Unit := ((((((((DataW.map []).put (.int .i64 22) (.lit (.int .i64 3))).put (.int .i64 23) (.lit (.int .i64 4))).put (.int .i64 24) (.lit (.int .i64 8))).put (.int .i64 25) (.lit (.int .i64 16))).put (.int .i64 27) (.lit (.int .i64 32))).put (.int .i64 28) (.lit (.int .i64 64))).put (.int .i64 29) (.lit (.int .i64 128)))
theorem clD_eq : clD = .map [(.int .i64 22, .lit (.int .i64 3)), (.int .i64 23, .lit (.int .i64 4)), (.int .i64 24, .lit (.int .i64 8)), (.int .i64 25, .lit (.int .i64 16)), (.int .i64 27, .lit (.int .i64 32)), (.int .i64 28, .lit (.int .i64 64)), (.int .i64 29, .lit (.int .i64 128))] := by kernel_rfl
theorem clD_at (n c : Int) (h : clD.atKey (.int .i64 n) (.lit (.int .i64 0)) = .lit (.int .i64 c)) : c = cell_clears.at n := by
  rw [clD_eq] at h
  unfold cell_clears.at
  have hk : ∀ k v : Int, (Lit.int IntKind.i64 k).sameKey (Lit.int IntKind.i64 n) = decide (k = n) := fun k v => by simp [Lit.sameKey]
  simp only [DataW.atKey, List.find?_cons, List.find?_nil] at h
  by_cases h22 : n = 22
  · subst h22; simpa [Lit.sameKey, eq_comm] using h
  by_cases h23 : n = 23
  · subst h23; simpa [Lit.sameKey, eq_comm] using h
  by_cases h24 : n = 24
  · subst h24; simpa [Lit.sameKey, eq_comm] using h
  by_cases h25 : n = 25
  · subst h25; simpa [Lit.sameKey, eq_comm] using h
  by_cases h27 : n = 27
  · subst h27; simpa [Lit.sameKey, eq_comm] using h
  by_cases h28 : n = 28
  · subst h28; simpa [Lit.sameKey, eq_comm] using h
  by_cases h29 : n = 29
  · subst h29; simpa [Lit.sameKey, eq_comm] using h
  simp [Lit.sameKey, Ne.symm h22, Ne.symm h23, Ne.symm h24, Ne.symm h25, Ne.symm h27, Ne.symm h28, Ne.symm h29] at h
  simp [h22, h23, h24, h25, h27, h28, h29, ← h]
theorem clears_key : Keyed Tryd.prog 3 := int_keyed Tryd.underlying3
theorem clears_zero (w : World) : (zeroValue 3).run Tryd.prog w = .ok (.int .i64 0) w := by kernel_rfl
theorem cell_clears.look {w : World} {b : Nat} (h : w.ownsMap Tryd.prog 3 (plainElem (H := Unit) Tryd.prog 3) b 7 clD) {n t : Int} (ht : cell_clears.f n = some t) :
    (Instr.lookup 106 (.map (some b)) (.int .i64 n) false).run Tryd.prog w = .ok (.int .i64 t) w := by
  unfold cell_clears.f at ht
  by_cases hn : (Lit.int .i64 n).wf = true
  · rw [if_pos hn] at ht
    obtain ⟨c, hrun, hat, _⟩ := h.lookup_int clears_key Tryd.underlying106 Tryd.underlying3 (clears_zero _) (keyOf_int_mk Tryd.underlying3 hn)
    rw [hrun, clD_at n c hat, Option.some.inj ht]
  · rw [if_neg hn] at ht; cases ht
set_option maxRecDepth 100000 in
theorem cell_clears.calls0 (w : World) : Calls Tryd.prog 84 #[] w fun e w' => ∃ bm, e = .returned (.map (some bm)) ∧ w'.ownsMap Tryd.prog 3 (plainElem (H := Unit) Tryd.prog 3) bm 7 clD ∧ Below w.heap.size w w' := by
  have hmm := @run_makeMap Tryd.prog
  have hb := (Below.refl w.heap.size w).alloc (Nat.le_refl _) (.map #[] 0)
  have hown := World.ownsMap_made w Tryd.prog 3 (plainElem (H := Unit) Tryd.prog 3)
  go_enter Tryd.func84, Tryd.ntmps84
  go_wp2_with (first | (refine wpList_insert_own _ rfl _ _ _ 106 rfl 3 3 clears_key Tryd.underlying106 _ w.heap.size _ _ rfl hown (by decide) _ _ _ rfl rfl (keyOf_int_mk Tryd.underlying3 (by decide)) _ [] (plainElem_int Tryd.underlying3 (by decide)) ?_; intro w1 hown1 hgrow1; replace hb := hb.grown hgrow1 hb.size (fun j hj => by cases hj; exact Nat.le_refl _); replace hown := hown1; clear hown1 hgrow1))
  go_ret
  exact ⟨_, rfl, hown, hb⟩
end Go.Proofs.YthipdgnbpdngpaaDoor
